/- VectorRepresentation, second form: for arguments of bulk at most 1048576 the law returns true and the arguments read as before; no other condition. Part 5 of 8: Qb Qc Vgo Es Et. -/
import Derived.Test.YtffgajgibddfmaaGreatP4
set_option linter.unusedVariables false
set_option linter.unusedSimpArgs false
namespace Go.Proofs.YtffgajgibddfmaaGreat
open Go.Vg Go.RowKit _root_.Go.Proofs.Tryz
set_option linter.unusedVariables false
open Go.Vm
theorem cmpQ_of {a b : Int} {p q : Rat} (h1 : a < b ↔ p < q) (h2 : b < a ↔ q < p) : cmpI a b = cmpQ p q := by
  unfold cmpI cmpQ
  simp only [h1, h2]
theorem num_pos_iff (q : Rat) : 0 < q.num ↔ 0 < q := by
  have h1 := num_neg_iff q
  have h2 := Rat.num_eq_zero (q := q)
  constructor
  · intro h
    have a1 : ¬ q < 0 := fun h3 => by have := h1.2 h3; omega
    have a2 : q ≠ 0 := fun h3 => by have := h2.2 h3; omega
    grind
  · intro h
    have a1 : ¬ q.num < 0 := fun h3 => by have := h1.1 h3; grind
    have a2 : q.num ≠ 0 := fun h3 => by have := h2.1 h3; grind
    omega
theorem sgn_lt_lt {p q : Rat} (h : Int.sign p.num < Int.sign q.num) : p < q := by
  have a1 := num_neg_iff p
  have a2 := num_pos_iff q
  have b1 := num_pos_iff p
  have b2 := num_neg_iff q
  rcases Int.lt_trichotomy p.num 0 with h1 | h1 | h1 <;> rcases Int.lt_trichotomy q.num 0 with h2 | h2 | h2 <;> simp [h1, h2, Int.sign_eq_neg_one_of_neg, Int.sign_eq_one_of_pos] at h
  · have c1 := a1.1 h1
    have c2 := Rat.num_eq_zero.1 h2
    rw [c2]; exact c1
  · have c1 := a1.1 h1
    have c2 := a2.1 h2
    grind
  · have c1 := Rat.num_eq_zero.1 h1
    have c2 := a2.1 h2
    rw [c1]; exact c2
theorem cmp_signs {p q : Rat} (h : Int.sign p.num ≠ Int.sign q.num) : cmpI (Int.sign p.num) (Int.sign q.num) = cmpQ p q := by
  rcases Int.lt_or_gt_of_ne h with h1 | h1
  · have h2 := sgn_lt_lt h1
    unfold cmpI cmpQ
    rw [if_pos h1, if_pos h2]
  · have h2 := sgn_lt_lt h1
    unfold cmpI cmpQ
    rw [if_neg (by omega), if_pos h1, if_neg (by grind), if_pos h2]
set_option maxHeartbeats 1000000 in
theorem q_norm {w : World} {sx : Bool} {Dx Ex : Nat → TypeId → Prop} {vx ux : Value} {x dx : List Nat} (hx : Sg (gN .u32) Dx w vx x) (lmx : Lm x) (lnx : x.length ≤ 17179869184) (hdx : Sg (gN .u32) Ex w ux dx) (lmdx : Lm dx) (lndx : dx.length ≤ 17179869184) {qx : Rat} (ex : ratOf sx (val x) (val dx) = qx) :
    Calls Tryz.prog 45 #[(.agg #[(.bool sx), vx, ux])] w fun e w' => ∃ v, e = .returned v ∧ (∃ vn vd, v = .agg #[.bool (decide (qx.num < 0)), vn, vd] ∧ Sg (gN .u32) (fun b T => w.heap.size ≤ b ∧ T = 96) w' vn (digs qx.num.natAbs) ∧ Sg (gN .u32) (fun b T => w.heap.size ≤ b ∧ T = 96) w' vd (digs qx.den) ∧ (digs qx.num.natAbs).length ≤ x.length ∧ (digs qx.den).length ≤ dx.length + 1) ∧ Ext w w' := by
 have hE : Below w.heap.size w w := Below.refl _ _
 have hlqx := rl_of lmx lmdx ex
 have hdqx := den_one qx
 refine calls_of (n := 21) (rs := [.cell 2 44]) func45 rfl rfl rfl (Nat.le_of_ble_eq_true rfl) ?_
 refine wset fun F0 hF0 => ?_
 refine wsr ?_
 refine rU (h_box (vv := (.agg #[(.bool sx), vx, ux])) (cs := [(.bool sx), vx, ux]) (hF0 0) rfl) ?_
 rintro _ w1 ⟨b2, rfl, hs5, hb4, he3⟩
 have ge_b2 := hE.ge hs5
 replace hE := hE.nx he3
 refine rU (h_alloc (cs := [(.bool false), (.slice none 0 0), (.slice none 0 0)]) ty44 rfl) ?_
 rintro _ w6 ⟨b7, rfl, hs10, hb9, he8⟩
 have lt_b2_b7 := Nat.lt_of_lt_of_eq hb4.lt hs10.symm
 have ge_b7 := hE.ge hs10
 replace hE := hE.nx he8
 refine RL.nil (wseq (wsr ?_))
 replace hb4 := hb4.ext he8
 have hc11 := hb4.cells (o := 0) (cs := [(.bool sx), vx, ux]) rfl
 refine rV (r_loada (o := 0) (cs := [(.bool sx), vx, ux]) underlying44 ag44 ty44 rfl hc11) ?_
 replace hx := hx.tr (Sm.ext (Ext.trans he3 he8))
 replace hdx := hdx.tr (Sm.ext (Ext.trans he3 he8))
 refine RL.call rfl rfl (by decide) (r_call (vl := [(.agg #[(.bool sx), vx, ux])]) ent69 rfl) (q_small hx (by assumption) (by first | omega | simp) hdx (by assumption) (by first | omega | simp) (show ratOf sx (val x) (val dx) = qx from ex)) ?_
 rintro _ w12 ⟨⟨nX, dX, okX, rfl, hsX⟩, he13⟩
 replace hE := hE.nx he13
 refine mV (v := (.tuple #[(.int .i64 (nX)), (.int .i64 (dX)), (.bool okX)])) rfl (rV (r_extract (v := (.int .i64 (nX))) rfl rfl) (rV (r_extract (v := (.int .i64 (dX))) rfl rfl) (rV (r_extract (v := (.bool okX)) rfl rfl) (aS (v := (.int .i64 (nX))) rfl (aS (v := (.int .i64 (dX))) rfl (aS (v := (.bool okX)) rfl (RL.nil (wsr (mV (v := (.bool okX)) rfl (RL.nil ?_))))))))))
 refine wcond (b := okX) rfl (fun hb14 => ?_) (fun hb14 => ?_)
 ·have hb14p := hb14
  have hok : okX = true := hb14
  have hs1 := hsX hb14
  refine wsr (mV (v := (.int .i64 (nX))) rfl (mV (v := (.int .i64 (dX))) rfl ?_))
  refine cL ent70 (q_quot (by omega) (by omega)) rfl ?_
  rintro _ w15 ⟨⟨vn17, vd19, rfl, hn18, hd20, hl21, hl22⟩, he16⟩
  have hlv23 := den_one (Rat.divInt nX dX)
  replace hn18 := hn18.fr hE
  replace hd20 := hd20.fr hE
  replace hE := hE.nx he16
  replace hb9 := hb9.ext (Ext.trans he13 he16)
  refine RL.runs rfl rfl (h_store (vv := (.agg #[(.bool (decide ((Rat.divInt nX dX).num < 0))), vn17, vd19])) (cs := [(.bool (decide ((Rat.divInt nX dX).num < 0))), vn17, vd19]) (o := 0) ty44 rfl rfl rfl rfl (one_cons rfl (one_cons hn18.one (one_cons hd20.one one_nil))) hb9 (Nat.le_of_ble_eq_true rfl)) ?_
  rintro w24 ⟨hn25, hx26, hz27⟩
  replace hE := hE.nb hx26 ge_b7
  have nb_hx26 := (Nb.of hb9 (nu_cons rfl (nu_cons rfl (nu_cons rfl nu_nil))))
  replace hb9 : Bk w24 b7 44 [(.bool (decide ((Rat.divInt nX dX).num < 0))), vn17, vd19] := hn25
  refine RL.nil ?_
  refine wret ?_
  refine ⟨[(.agg #[(.bool (decide ((Rat.divInt nX dX).num < 0))), vn17, vd19])], ⟨⟨_, _, [(.bool (decide ((Rat.divInt nX dX).num < 0))), vn17, vd19], rfl, ⟨_, underlying44⟩, hb9.cells rfl, .inl ⟨ag44, ⟨_, _, ty44⟩, rfl⟩⟩, trivial⟩, ?_⟩
  have hq : (Rat.divInt nX dX) = qx := by first | exact (hsX hok).2.2.2.2 | exact eqX
  replace hn18 := hn18.apn hx26 nb_hx26
  replace hd20 := hd20.apn hx26 nb_hx26
  exact ⟨⟨_, _, agg3 (congrArg (fun z : Rat => decide (z.num < 0)) hq), by rw [← hq]; exact hn18, by rw [← hq]; exact hd20, by omega, by omega⟩, hE⟩
 ·have hb14p := hb14
  refine wskip ?_
  refine wsr ?_
  replace hb4 := hb4.ext he13
  have hc28 := hb4.cells (o := 0) (cs := [(.bool sx), vx, ux]) rfl
  refine rV (r_loada (o := 0) (cs := [(.bool sx), vx, ux]) underlying44 ag44 ty44 rfl hc28) ?_
  replace hx := hx.tr (Sm.ext he13)
  replace hdx := hdx.tr (Sm.ext he13)
  refine RL.call rfl rfl (by decide) (r_call (vl := [(.agg #[(.bool sx), vx, ux])]) ent67 rfl) (q_parts hx (by assumption) (by first | omega | simp) hdx (by assumption) (by first | omega | simp) (show ratOf sx (val x) (val dx) = qx from ex)) ?_
  rintro _ w29 ⟨⟨sX, vnX, vdX, xnX, xdX, rfl, hnX, lmnX, lnnX, hdX, lmdX, lndX, nzX, eqX⟩, he30⟩
  replace hE := hE.nx he30
  refine rV (r_extract (v := (.agg #[(.bool sX), vnX])) rfl rfl) (rV (r_extract (v := vdX) rfl rfl) ?_)
  refine RL.call rfl rfl (by decide) (r_call (vl := [(.agg #[(.bool sX), vnX]), vdX]) ent71 rfl) (q_lowest hnX lmnX (by first | omega | simp) rfl hdX lmdX (by first | omega | simp) (by first | assumption | exact hnz)) ?_
  rintro vv39 w31 ⟨⟨vn33, vd35, hv40, hn34, hd36, hl37, hl38⟩, he32⟩
  subst hv40
  have hlv41 := den_one (Rat.divInt (sg sX (val xnX)) (((val xdX) : Nat) : Int))
  replace hn34 := hn34.fr hE
  replace hd36 := hd36.fr hE
  replace hE := hE.nx he32
  have hm46 := Ext.trans he13 (Ext.trans he30 he32)
  replace hb9 := hb9.ext hm46
  refine RL.runs rfl rfl (h_store (vv := (.agg #[(.bool (decide ((Rat.divInt (sg sX (val xnX)) (((val xdX) : Nat) : Int)).num < 0))), vn33, vd35])) (cs := [(.bool (decide ((Rat.divInt (sg sX (val xnX)) (((val xdX) : Nat) : Int)).num < 0))), vn33, vd35]) (o := 0) ty44 rfl rfl rfl rfl (one_cons rfl (one_cons hn34.one (one_cons hd36.one one_nil))) hb9 (Nat.le_of_ble_eq_true rfl)) ?_
  rintro w42 ⟨hn43, hx44, hz45⟩
  replace hE := hE.nb hx44 ge_b7
  have nb_hx44 := (Nb.of hb9 (nu_cons rfl (nu_cons rfl (nu_cons rfl nu_nil))))
  replace hb9 : Bk w42 b7 44 [(.bool (decide ((Rat.divInt (sg sX (val xnX)) (((val xdX) : Nat) : Int)).num < 0))), vn33, vd35] := hn43
  refine RL.nil ?_
  refine wret ?_
  refine ⟨[(.agg #[(.bool (decide ((Rat.divInt (sg sX (val xnX)) (((val xdX) : Nat) : Int)).num < 0))), vn33, vd35])], ⟨⟨_, _, [(.bool (decide ((Rat.divInt (sg sX (val xnX)) (((val xdX) : Nat) : Int)).num < 0))), vn33, vd35], rfl, ⟨_, underlying44⟩, hb9.cells rfl, .inl ⟨ag44, ⟨_, _, ty44⟩, rfl⟩⟩, trivial⟩, ?_⟩
  have hq : (Rat.divInt (sg sX (val xnX)) (((val xdX) : Nat) : Int)) = qx := by first | exact (hsX hok).2.2.2.2 | exact eqX
  replace hn34 := hn34.apn hx44 nb_hx44
  replace hd36 := hd36.apn hx44 nb_hx44
  exact ⟨⟨_, _, agg3 (congrArg (fun z : Rat => decide (z.num < 0)) hq), by rw [← hq]; exact hn34, by rw [← hq]; exact hd36, by omega, by omega⟩, hE⟩
set_option maxHeartbeats 1000000 in
theorem q_from {w : World} {k : Int} (hk : -9223372036854775808 ≤ k ∧ k ≤ 9223372036854775807) :
    Calls Tryz.prog 49 #[(.int .i64 (k))] w fun e w' => ∃ v, e = .returned v ∧ (∃ vn vd, v = .agg #[.bool (decide (((k : Int) : Rat).num < 0)), vn, vd] ∧ Sg (gN .u32) (fun b T => w.heap.size ≤ b ∧ T = 96) w' vn (digs ((k : Int) : Rat).num.natAbs) ∧ Sg (gN .u32) (fun b T => w.heap.size ≤ b ∧ T = 96) w' vd (digs ((k : Int) : Rat).den) ∧ (digs ((k : Int) : Rat).num.natAbs).length ≤ 2 ∧ (digs ((k : Int) : Rat).den).length ≤ 1) ∧ Ext w w' := by
 have hE : Below w.heap.size w w := Below.refl _ _
 refine calls_of (n := 7) (rs := [.cell 2 44]) func49 rfl rfl rfl (Nat.le_of_ble_eq_true rfl) ?_
 refine wset fun F0 hF0 => ?_
 refine wsr ?_
 refine rU (h_alloc (cs := [(.bool false), (.slice none 0 0), (.slice none 0 0)]) ty44 rfl) ?_
 rintro _ w1 ⟨b2, rfl, hs5, hb4, he3⟩
 have ge_b2 := hE.ge hs5
 replace hE := hE.nx he3
 refine RL.nil (wsr (mV (v := (.int .i64 (k))) (hF0 0) ?_))
 refine cL ent74 (i_from (by omega)) rfl ?_
 rintro _ w6 ⟨⟨vr8, rfl, hr9, hl10⟩, he7⟩
 replace hr9 := hr9.fr hE
 replace hE := hE.nx he7
 refine rU (h_lit (vl := [(0, (.int .u32 1))]) (cs := [(.int .u32 1)]) underlying40 ty96 rfl (by decide) (by first | (simp [Instr.fill, Value.cells]; done) | rfl | kernel_rfl)) ?_
 rintro _ w11 ⟨b12, rfl, hs15, hb14, he13⟩
 replace hb4 := hb4.ext he7
 have lt_b2_b12 := Nat.lt_of_lt_of_eq hb4.lt hs15.symm
 have ge_b12 := hE.ge hs15
 replace hE := hE.nx he13
 refine rV (r_build (vl := [(0, (.agg #[(.bool (decide (k < 0))), vr8])), (1, (.slice (some ⟨b12, 0, none⟩) (1) (1)))]) (cs := [(.bool (decide (k < 0))), vr8, (.slice (some ⟨b12, 0, none⟩) (1) (1))]) underlying44 ty44 rfl (pl44 underlying44) rfl) ?_
 replace hb4 := hb4.ext he13
 refine RL.runs rfl rfl (h_store (vv := (.agg #[(.bool (decide (k < 0))), vr8, (.slice (some ⟨b12, 0, none⟩) (1) (1))])) (cs := [(.bool (decide (k < 0))), vr8, (.slice (some ⟨b12, 0, none⟩) (1) (1))]) (o := 0) ty44 rfl rfl rfl rfl (one_cons rfl (one_cons hr9.one (one_cons rfl one_nil))) hb4 (Nat.le_of_ble_eq_true rfl)) ?_
 rintro w16 ⟨hn17, hx18, hz19⟩
 replace hE := hE.nb hx18 ge_b2
 have nb_hx18 := (Nb.of hb4 (nu_cons rfl (nu_cons rfl (nu_cons rfl nu_nil))))
 replace hb4 : Bk w16 b2 44 [(.bool (decide (k < 0))), vr8, (.slice (some ⟨b12, 0, none⟩) (1) (1))] := hn17
 refine RL.nil ?_
 refine wret ?_
 refine ⟨[(.agg #[(.bool (decide (k < 0))), vr8, (.slice (some ⟨b12, 0, none⟩) (1) (1))])], ⟨⟨_, _, [(.bool (decide (k < 0))), vr8, (.slice (some ⟨b12, 0, none⟩) (1) (1))], rfl, ⟨_, underlying44⟩, hb4.cells rfl, .inl ⟨ag44, ⟨_, _, ty44⟩, rfl⟩⟩, trivial⟩, ?_⟩
 replace hr9 := (hr9.tr (Sm.ext he13)).apn hx18 nb_hx18
 replace hb14 := hb14.exc hx18 (Nat.ne_of_gt lt_b2_b12)
 exact ⟨⟨_, _, agg3 (by rw [Rat.num_intCast]), by rw [Rat.num_intCast]; exact hr9, by rw [Rat.den_intCast]; exact hb14.sg (g := gN .u32) (D := (fun b T => w.heap.size ≤ b ∧ T = 96)) (xs := [1]) ⟨ge_b12, rfl⟩ rfl rfl (by decide), by rw [Rat.num_intCast]; omega, Nat.le_refl _⟩, hE⟩
set_option maxHeartbeats 1000000 in
theorem q_sign {w : World} {sx : Bool} {Dx Ex : Nat → TypeId → Prop} {vx ux : Value} {x dx : List Nat} (hx : Sg (gN .u32) Dx w vx x) (lmx : Lm x) (lnx : x.length ≤ 17179869184) (hdx : Sg (gN .u32) Ex w ux dx) (lmdx : Lm dx) (lndx : dx.length ≤ 17179869184) {qx : Rat} (ex : ratOf sx (val x) (val dx) = qx) :
    Calls Tryz.prog 44 #[(.agg #[(.bool sx), vx, ux])] w fun e w' => ∃ v, e = .returned v ∧ v = .int .i64 (Int.sign qx.num) ∧ Ext w w' := by
 have hE : Below w.heap.size w w := Below.refl _ _
 have hlqx := rl_of lmx lmdx ex
 have hdqx := den_one qx
 refine calls_of (n := 12) (rs := [.tmp 2]) func44 rfl rfl rfl (Nat.le_of_ble_eq_true rfl) ?_
 refine wset fun F0 hF0 => ?_
 refine wsr ?_
 refine rU (h_box (vv := (.agg #[(.bool sx), vx, ux])) (cs := [(.bool sx), vx, ux]) (hF0 0) rfl) ?_
 rintro _ w1 ⟨b2, rfl, hs5, hb4, he3⟩
 have ge_b2 := hE.ge hs5
 replace hE := hE.nx he3
 refine aS (v := (.int .i64 0)) rfl (RL.nil (wsr ?_))
 have hc6 := hb4.cells (o := 0) (cs := [(.bool sx), vx, ux]) rfl
 refine rV (r_loada (o := 0) (cs := [(.bool sx), vx, ux]) underlying44 ag44 ty44 rfl hc6) ?_
 replace hx := hx.tr (Sm.ext he3)
 replace hdx := hdx.tr (Sm.ext he3)
 refine RL.call rfl rfl (by decide) (r_call (vl := [(.agg #[(.bool sx), vx, ux])]) ent67 rfl) (q_parts hx (by assumption) (by first | omega | simp) hdx (by assumption) (by first | omega | simp) (show ratOf sx (val x) (val dx) = qx from ex)) ?_
 rintro _ w7 ⟨⟨sX, vnX, vdX, xnX, xdX, rfl, hnX, lmnX, lnnX, hdX, lmdX, lndX, nzX, eqX⟩, he8⟩
 replace hE := hE.nx he8
 refine mV (v := (.tuple #[(.agg #[(.bool sX), vnX]), vdX])) rfl (rV (r_extract (v := (.agg #[(.bool sX), vnX])) rfl rfl) (rV (r_extract (v := vdX) rfl rfl) ?_))
 refine rU (h_alloc (cs := [(.bool false), (.slice none 0 0)]) ty42 rfl) ?_
 rintro _ w9 ⟨b10, rfl, hs13, hb12, he11⟩
 replace hb4 := hb4.ext he8
 have lt_b2_b10 := Nat.lt_of_lt_of_eq hb4.lt hs13.symm
 have ge_b10 := hE.ge hs13
 replace hE := hE.nx he11
 refine RL.runs rfl rfl (h_store (vv := (.agg #[(.bool sX), vnX])) (cs := [(.bool sX), vnX]) (o := 0) ty42 rfl rfl rfl rfl (one_cons rfl (one_cons hnX.one one_nil)) hb12 (Nat.le_of_ble_eq_true rfl)) ?_
 rintro w14 ⟨hn15, hx16, hz17⟩
 replace hE := hE.nb hx16 ge_b10
 have nb_hx16 := (Nb.of hb12 (nu_cons rfl (nu_cons rfl nu_nil)))
 replace hb12 : Bk w14 b10 42 [(.bool sX), vnX] := hn15
 refine aS (v := vdX) rfl (RL.nil (wsr ?_))
 have hc18 := hb12.cells (o := 0) (cs := [(.bool sX), vnX]) rfl
 refine rV (r_loada (o := 0) (cs := [(.bool sX), vnX]) underlying42 ag42 ty42 rfl hc18) ?_
 replace hnX := (hnX.tr (Sm.ext he11)).apn hx16 nb_hx16
 refine RL.call rfl rfl (by decide) (r_call (vl := [(.agg #[(.bool sX), vnX])]) ent68 rfl) (i_sign hnX lmnX (by first | omega | simp) rfl) ?_
 rintro _ w19 ⟨rfl, he20⟩
 replace hE := hE.nx he20
 refine aS (v := (.int .i64 (Int.sign (sg sX (val xnX))))) rfl (RL.nil ?_)
 refine wret ?_
 refine ⟨[(.int .i64 (Int.sign (sg sX (val xnX))))], ⟨rfl, trivial⟩, ?_⟩
 exact ⟨int_eq (rat_sign nzX eqX), hE⟩
set_option maxHeartbeats 4000000 in
theorem q_compare {w : World} {sx : Bool} {Dx Ex : Nat → TypeId → Prop} {vx ux : Value} {x dx : List Nat} (hx : Sg (gN .u32) Dx w vx x) (lmx : Lm x) (lnx : x.length ≤ 17179869184) (hdx : Sg (gN .u32) Ex w ux dx) (lmdx : Lm dx) (lndx : dx.length ≤ 17179869184) {qx : Rat} (ex : ratOf sx (val x) (val dx) = qx) {sy : Bool} {Dy Ey : Nat → TypeId → Prop} {vy uy : Value} {y dy : List Nat} (hy : Sg (gN .u32) Dy w vy y) (lmy : Lm y) (lny : y.length ≤ 17179869184) (hdy : Sg (gN .u32) Ey w uy dy) (lmdy : Lm dy) (lndy : dy.length ≤ 17179869184) {qy : Rat} (ey : ratOf sy (val y) (val dy) = qy) :
    Calls Tryz.prog 61 #[(.agg #[(.bool sx), vx, ux]), (.agg #[(.bool sy), vy, uy])] w fun e w' => ∃ v, e = .returned v ∧ v = .int .i64 (cmpQ qx qy) ∧ Ext w w' := by
 have hE : Below w.heap.size w w := Below.refl _ _
 have hlqx := rl_of lmx lmdx ex
 have hdqx := den_one qx
 have hlqy := rl_of lmy lmdy ey
 have hdqy := den_one qy
 refine calls_of (n := 69) (rs := [.tmp 4]) func61 rfl rfl rfl (Nat.le_of_ble_eq_true rfl) ?_
 refine wset fun F0 hF0 => ?_
 refine wsr ?_
 refine rU (h_box (vv := (.agg #[(.bool sx), vx, ux])) (cs := [(.bool sx), vx, ux]) (hF0 0) rfl) ?_
 rintro _ w1 ⟨b2, rfl, hs5, hb4, he3⟩
 have ge_b2 := hE.ge hs5
 replace hE := hE.nx he3
 refine rU (h_box (vv := (.agg #[(.bool sy), vy, uy])) (cs := [(.bool sy), vy, uy]) (hF0 1) rfl) ?_
 rintro _ w6 ⟨b7, rfl, hs10, hb9, he8⟩
 have lt_b2_b7 := Nat.lt_of_lt_of_eq hb4.lt hs10.symm
 have ge_b7 := hE.ge hs10
 replace hE := hE.nx he8
 refine aS (v := (.int .i64 0)) rfl (RL.nil (wseq (wseq ?_)))
 refine wdraw mixed fun w11 he12 => ?_
 replace hE := hE.nx he12
 replace hb4 := hb4.ext (Ext.trans he8 he12)
 have hc13 := hb4.cells (o := 0) (cs := [(.bool sx), vx, ux]) rfl
 refine RA.rd 0 rfl (by kernel_rfl) rfl rfl rfl (by decide) (Ext.refl _) (fun u hu => r_loada (o := 0) (cs := [(.bool sx), vx, ux]) underlying44 ag44 ty44 rfl (fun j v hj => cell_ext hu (hc13 j v hj))) ?_
 replace hb9 := hb9.ext he12
 have hc14 := hb9.cells (o := 0) (cs := [(.bool sy), vy, uy]) rfl
 refine RA.rd 2 rfl (by kernel_rfl) rfl rfl rfl (by decide) (Ext.refl _) (fun u hu => r_loada (o := 0) (cs := [(.bool sy), vy, uy]) underlying44 ag44 ty44 rfl (fun j v hj => cell_ext hu (hc14 j v hj))) ?_
 refine RA.all [1] (by kernel_rfl) rfl ?_
 have hm17 := Ext.trans he3 (Ext.trans he8 he12)
 replace hx := hx.tr (Sm.ext hm17)
 replace hdx := hdx.tr (Sm.ext hm17)
 refine RS.call rfl rfl rfl (by decide) (r_call (vl := [(.agg #[(.bool sx), vx, ux])]) ent44 rfl) (q_sign hx (by assumption) (by first | omega | simp) hdx (by assumption) (by first | omega | simp) (show ratOf sx (val x) (val dx) = qx from ex)) ?_ RS.nil
 rintro _ w15 ⟨rfl, he16⟩
 refine rm he16 ?_
 replace hE := hE.nx he16
 refine RA.all [3] (by kernel_rfl) rfl ?_
 have hm20 := Ext.trans hm17 he16
 replace hy := hy.tr (Sm.ext hm20)
 replace hdy := hdy.tr (Sm.ext hm20)
 refine RS.call rfl rfl rfl (by decide) (r_call (vl := [(.agg #[(.bool sy), vy, uy])]) ent44 rfl) (q_sign hy (by assumption) (by first | omega | simp) hdy (by assumption) (by first | omega | simp) (show ratOf sy (val y) (val dy) = qy from ey)) ?_ RS.nil
 rintro _ w18 ⟨rfl, he19⟩
 refine rm he19 ?_
 replace hE := hE.nx he19
 refine ra 4 rfl (fun _ => r_assign_as (v := (.int .i64 (Int.sign qx.num))) rfl) ?_
 refine ra 5 rfl (fun _ => r_assign_as (v := (.int .i64 (Int.sign qy.num))) rfl) ?_
 refine RA.done (by kernel_rfl) ?_
 refine wsr (mV (v := (.int .i64 (Int.sign qx.num))) rfl (mV (v := (.int .i64 (Int.sign qy.num))) rfl (rV (r_neq (k := .i64) (a := Int.sign qx.num) (b := Int.sign qy.num) rfl rfl) (RL.nil ?_))))
 refine wcond (b := decide ((Int.sign qx.num) ≠ (Int.sign qy.num))) rfl (fun hb21 => ?_) (fun hb21 => ?_)
 ·have hb21p := of_decide_eq_true hb21
  have hsn := hb21p
  refine wsr (mV (v := (.int .i64 (Int.sign qx.num))) rfl (mV (v := (.int .i64 (Int.sign qy.num))) rfl ?_))
  refine cL ent64 (cmp_int _) rfl ?_
  rintro _ _ ⟨rfl, rfl⟩
  refine aS (v := (.int .i64 (cmpI (Int.sign qx.num) (Int.sign qy.num)))) rfl (RL.nil ?_)
  refine wret ?_
  refine ⟨[(.int .i64 (cmpI (Int.sign qx.num) (Int.sign qy.num)))], ⟨rfl, trivial⟩, ?_⟩
  exact ⟨int_eq (cmp_signs hsn), hE⟩
 ·have hb21p := of_decide_eq_false hb21
  refine wskip ?_
  refine wsr ?_
  replace hb4 := hb4.ext (Ext.trans he16 he19)
  have hc23 := hb4.cells (o := 0) (cs := [(.bool sx), vx, ux]) rfl
  refine rV (r_loada (o := 0) (cs := [(.bool sx), vx, ux]) underlying44 ag44 ty44 rfl hc23) ?_
  replace hx := hx.tr (Sm.ext (Ext.trans he16 he19))
  replace hdx := hdx.tr (Sm.ext (Ext.trans he16 he19))
  refine RL.call rfl rfl (by decide) (r_call (vl := [(.agg #[(.bool sx), vx, ux])]) ent69 rfl) (q_small hx (by assumption) (by first | omega | simp) hdx (by assumption) (by first | omega | simp) (show ratOf sx (val x) (val dx) = qx from ex)) ?_
  rintro _ w24 ⟨⟨nX, dX, okX, rfl, hsX⟩, he25⟩
  replace hE := hE.nx he25
  refine mV (v := (.tuple #[(.int .i64 (nX)), (.int .i64 (dX)), (.bool okX)])) rfl (rV (r_extract (v := (.int .i64 (nX))) rfl rfl) (rV (r_extract (v := (.int .i64 (dX))) rfl rfl) (rV (r_extract (v := (.bool okX)) rfl rfl) (aS (v := (.int .i64 (nX))) rfl (aS (v := (.int .i64 (dX))) rfl (aS (v := (.bool okX)) rfl (RL.nil (wsr ?_))))))))
  have hm27 := Ext.trans he16 (Ext.trans he19 he25)
  replace hb9 := hb9.ext hm27
  have hc26 := hb9.cells (o := 0) (cs := [(.bool sy), vy, uy]) rfl
  refine rV (r_loada (o := 0) (cs := [(.bool sy), vy, uy]) underlying44 ag44 ty44 rfl hc26) ?_
  replace hy := hy.tr (Sm.ext (Ext.trans he19 he25))
  replace hdy := hdy.tr (Sm.ext (Ext.trans he19 he25))
  refine RL.call rfl rfl (by decide) (r_call (vl := [(.agg #[(.bool sy), vy, uy])]) ent69 rfl) (q_small hy (by assumption) (by first | omega | simp) hdy (by assumption) (by first | omega | simp) (show ratOf sy (val y) (val dy) = qy from ey)) ?_
  rintro _ w28 ⟨⟨nY, dY, okY, rfl, hsY⟩, he29⟩
  replace hE := hE.nx he29
  refine mV (v := (.tuple #[(.int .i64 (nY)), (.int .i64 (dY)), (.bool okY)])) rfl (rV (r_extract (v := (.int .i64 (nY))) rfl rfl) (rV (r_extract (v := (.int .i64 (dY))) rfl rfl) (rV (r_extract (v := (.bool okY)) rfl rfl) (aS (v := (.int .i64 (nY))) rfl (aS (v := (.int .i64 (dY))) rfl (aS (v := (.bool okY)) rfl (RL.nil (wseq (wsr (mV (v := (.bool okX)) rfl (mV (v := (.bool okX)) rfl ?_)))))))))))
  rcases Bool.eq_false_or_eq_true (okX) with hb30 | hb30
  ·have hb30p := hb30
   have hsx1 := hsX hb30
   refine RL.gval rfl rfl (bool_eq hb30) rfl (by decide) (r_move_as (v := (.bool okY)) rfl) ?_
   refine rV (r_pick_t (v := (.bool okY)) (bool_eq hb30) rfl) (RL.nil ?_)
   refine wcond (b := okY) rfl (fun hb31 => ?_) (fun hb31 => ?_)
   ·have hb31p := hb31
    have hsy1 := hsY hb31
    refine wseq ?_
    have hm1 := mul31 (a := nX) (b := dY) ⟨by omega, by omega⟩ ⟨by omega, by omega⟩
    have hm2 := mul31 (a := nY) (b := dX) ⟨by omega, by omega⟩ ⟨by omega, by omega⟩
    have hm3 := mul31 (a := dX) (b := dY) ⟨by omega, by omega⟩ ⟨by omega, by omega⟩
    have hm4 := mul31 (a := nX) (b := nY) ⟨by omega, by omega⟩ ⟨by omega, by omega⟩
    have hmp := Int.mul_pos hsx1.2.2.1 hsy1.2.2.1
    refine wregion (mV (v := (.int .i64 (nX))) rfl (mV (v := (.int .i64 (dY))) rfl (rV (r_mul (k := .i64) (a := nX) (b := dY) (c := nX * dY) rfl rfl (wi64 (by omega))) (mV (v := (.int .i64 (nY))) rfl (mV (v := (.int .i64 (dX))) rfl (rV (r_mul (k := .i64) (a := nY) (b := dX) (c := nY * dX) rfl rfl (wi64 (by omega))) ?_))))))
    refine cL ent88 (cmp_int64 _) rfl ?_
    rintro _ _ ⟨rfl, rfl⟩
    refine aS (v := (.int .i64 (cmpI (nX * dY) (nY * dX)))) rfl (RL.nil ?_)
    refine wret ?_
    refine ⟨[(.int .i64 (cmpI (nX * dY) (nY * dX)))], ⟨rfl, trivial⟩, ?_⟩
    exact ⟨int_eq (cmpQ_of (rcmp_lt hsx1.2.2.1 hsy1.2.2.1 hsx1.2.2.2.2 hsy1.2.2.2.2) (rcmp_lt hsy1.2.2.1 hsx1.2.2.1 hsy1.2.2.2.2 hsx1.2.2.2.2)), hE⟩
   ·have hb31p := hb31
    refine wskip ?_
    refine wsr ?_
    replace hb4 := hb4.ext (Ext.trans he25 he29)
    have hc33 := hb4.cells (o := 0) (cs := [(.bool sx), vx, ux]) rfl
    refine rV (r_loada (o := 0) (cs := [(.bool sx), vx, ux]) underlying44 ag44 ty44 rfl hc33) ?_
    replace hx := hx.tr (Sm.ext (Ext.trans he25 he29))
    replace hdx := hdx.tr (Sm.ext (Ext.trans he25 he29))
    refine RL.call rfl rfl (by decide) (r_call (vl := [(.agg #[(.bool sx), vx, ux])]) ent67 rfl) (q_parts hx (by assumption) (by first | omega | simp) hdx (by assumption) (by first | omega | simp) (show ratOf sx (val x) (val dx) = qx from ex)) ?_
    rintro _ w34 ⟨⟨sX, vnX, vdX, xnX, xdX, rfl, hnX, lmnX, lnnX, hdX, lmdX, lndX, nzX, eqX⟩, he35⟩
    replace hE := hE.nx he35
    refine mV (v := (.tuple #[(.agg #[(.bool sX), vnX]), vdX])) rfl (rV (r_extract (v := (.agg #[(.bool sX), vnX])) rfl rfl) (rV (r_extract (v := vdX) rfl rfl) ?_))
    refine rU (h_alloc (cs := [(.bool false), (.slice none 0 0)]) ty42 rfl) ?_
    rintro _ w36 ⟨b37, rfl, hs40, hb39, he38⟩
    replace hb9 := hb9.ext (Ext.trans he29 he35)
    have lt_b7_b37 := Nat.lt_of_lt_of_eq hb9.lt hs40.symm
    have ge_b37 := hE.ge hs40
    replace hE := hE.nx he38
    refine RL.runs rfl rfl (h_store (vv := (.agg #[(.bool sX), vnX])) (cs := [(.bool sX), vnX]) (o := 0) ty42 rfl rfl rfl rfl (one_cons rfl (one_cons hnX.one one_nil)) hb39 (Nat.le_of_ble_eq_true rfl)) ?_
    rintro w41 ⟨hn42, hx43, hz44⟩
    replace hE := hE.nb hx43 ge_b37
    have nb_hx43 := (Nb.of hb39 (nu_cons rfl (nu_cons rfl nu_nil)))
    replace hb39 : Bk w41 b37 42 [(.bool sX), vnX] := hn42
    refine aS (v := vdX) rfl (RL.nil (wsr ?_))
    replace hb9 := (hb9.ext he38).exc hx43 (Nat.ne_of_lt lt_b7_b37)
    have hc45 := hb9.cells (o := 0) (cs := [(.bool sy), vy, uy]) rfl
    refine rV (r_loada (o := 0) (cs := [(.bool sy), vy, uy]) underlying44 ag44 ty44 rfl hc45) ?_
    have hm48 := Ext.trans he29 (Ext.trans he35 he38)
    replace hy := (hy.tr (Sm.ext hm48)).apn hx43 nb_hx43
    replace hdy := (hdy.tr (Sm.ext hm48)).apn hx43 nb_hx43
    refine RL.call rfl rfl (by decide) (r_call (vl := [(.agg #[(.bool sy), vy, uy])]) ent67 rfl) (q_parts hy (by assumption) (by first | omega | simp) hdy (by assumption) (by first | omega | simp) (show ratOf sy (val y) (val dy) = qy from ey)) ?_
    rintro _ w46 ⟨⟨sY, vnY, vdY, xnY, xdY, rfl, hnY, lmnY, lnnY, hdY, lmdY, lndY, nzY, eqY⟩, he47⟩
    replace hE := hE.nx he47
    refine mV (v := (.tuple #[(.agg #[(.bool sY), vnY]), vdY])) rfl (rV (r_extract (v := (.agg #[(.bool sY), vnY])) rfl rfl) (rV (r_extract (v := vdY) rfl rfl) ?_))
    refine rU (h_alloc (cs := [(.bool false), (.slice none 0 0)]) ty42 rfl) ?_
    rintro _ w49 ⟨b50, rfl, hs53, hb52, he51⟩
    replace hb39 := hb39.ext he47
    have lt_b37_b50 := Nat.lt_of_lt_of_eq hb39.lt hs53.symm
    have ge_b50 := hE.ge hs53
    replace hE := hE.nx he51
    refine RL.runs rfl rfl (h_store (vv := (.agg #[(.bool sY), vnY])) (cs := [(.bool sY), vnY]) (o := 0) ty42 rfl rfl rfl rfl (one_cons rfl (one_cons hnY.one one_nil)) hb52 (Nat.le_of_ble_eq_true rfl)) ?_
    rintro w54 ⟨hn55, hx56, hz57⟩
    replace hE := hE.nb hx56 ge_b50
    have nb_hx56 := (Nb.of hb52 (nu_cons rfl (nu_cons rfl nu_nil)))
    replace hb52 : Bk w54 b50 42 [(.bool sY), vnY] := hn55
    refine aS (v := vdY) rfl (RL.nil (wseq ?_))
    refine wdraw mixed fun w58 he59 => ?_
    replace hE := hE.nx he59
    replace hb39 := ((hb39.ext he51).exc hx56 (Nat.ne_of_lt lt_b37_b50)).ext he59
    have hc60 := hb39.cells (o := 0) (cs := [(.bool sX), vnX]) rfl
    refine RA.rd 0 rfl (by kernel_rfl) rfl rfl rfl (by decide) (Ext.refl _) (fun u hu => r_loada (o := 0) (cs := [(.bool sX), vnX]) underlying42 ag42 ty42 rfl (fun j v hj => cell_ext hu (hc60 j v hj))) ?_
    refine ra 1 rfl (fun _ => r_move_as (v := vdY) rfl) ?_
    refine ra 2 rfl (fun _ => r_build (vl := [(1, vdY)]) (cs := [(.bool false), vdY]) underlying42 ty42 rfl (pl42 underlying42) (by obtain ⟨_, _, e0_, -, -⟩ := hdY.len; simp only [e0_]; rfl)) ?_
    replace hb52 := hb52.ext he59
    have hc61 := hb52.cells (o := 0) (cs := [(.bool sY), vnY]) rfl
    refine RA.rd 4 rfl (by kernel_rfl) rfl rfl rfl (by decide) (Ext.refl _) (fun u hu => r_loada (o := 0) (cs := [(.bool sY), vnY]) underlying42 ag42 ty42 rfl (fun j v hj => cell_ext hu (hc61 j v hj))) ?_
    refine ra 5 rfl (fun _ => r_move_as (v := vdX) rfl) ?_
    refine ra 6 rfl (fun _ => r_build (vl := [(1, vdX)]) (cs := [(.bool false), vdX]) underlying42 ty42 rfl (pl42 underlying42) (by obtain ⟨_, _, e0_, -, -⟩ := hdX.len; simp only [e0_]; rfl)) ?_
    refine RA.all [3] (by kernel_rfl) rfl ?_
    replace hnX := ((((hnX.tr (Sm.ext he38)).apn hx43 nb_hx43).tr (Sm.ext (Ext.trans he47 he51))).apn hx56 nb_hx56).tr (Sm.ext he59)
    replace hdY := ((hdY.tr (Sm.ext he51)).apn hx56 nb_hx56).tr (Sm.ext he59)
    refine RS.call rfl rfl rfl (by decide) (r_call (vl := [(.agg #[(.bool sX), vnX]), (.agg #[(.bool false), vdY])]) ent79 rfl) (i_mul hnX lmnX (by first | omega | simp) rfl hdY lmdY (by first | omega | simp) rfl) ?_ RS.nil
    rintro _ w62 ⟨⟨vr64, rfl, hr65, hl66⟩, he63⟩
    refine rm he63 ?_
    replace hr65 := hr65.fr hE
    replace hE := hE.nx he63
    refine RA.all [7] (by kernel_rfl) rfl ?_
    replace hnY := ((hnY.tr (Sm.ext he51)).apn hx56 nb_hx56).tr (Sm.ext (Ext.trans he59 he63))
    replace hdX := ((((hdX.tr (Sm.ext he38)).apn hx43 nb_hx43).tr (Sm.ext (Ext.trans he47 he51))).apn hx56 nb_hx56).tr (Sm.ext (Ext.trans he59 he63))
    refine RS.call rfl rfl rfl (by decide) (r_call (vl := [(.agg #[(.bool sY), vnY]), (.agg #[(.bool false), vdX])]) ent79 rfl) (i_mul hnY lmnY (by first | omega | simp) rfl hdX lmdX (by first | omega | simp) rfl) ?_ RS.nil
    rintro _ w67 ⟨⟨vr69, rfl, hr70, hl71⟩, he68⟩
    refine rm he68 ?_
    replace hr70 := hr70.fr hE
    replace hE := hE.nx he68
    refine RA.all [8] (by kernel_rfl) rfl ?_
    replace hr65 := hr65.tr (Sm.ext he68)
    refine RS.call rfl rfl rfl (by decide) (r_call (vl := [(.agg #[(.bool (decide (((sg sX (val xnX)) * (sg false (val xdY))) < 0))), vr64]), (.agg #[(.bool (decide (((sg sY (val xnY)) * (sg false (val xdX))) < 0))), vr69])]) ent89 rfl) (i_compare hr65 (digs_lm _) (by first | omega | simp) (sg_canon _) hr70 (digs_lm _) (by first | omega | simp) (sg_canon _)) ?_ RS.nil
    rintro _ w72 ⟨rfl, he73⟩
    refine rm he73 ?_
    replace hE := hE.nx he73
    refine ra 9 rfl (fun _ => r_assign_as (v := (.int .i64 (cmpI ((sg sX (val xnX)) * (sg false (val xdY))) ((sg sY (val xnY)) * (sg false (val xdX)))))) rfl) ?_
    refine RA.done (by kernel_rfl) ?_
    refine wret ?_
    refine ⟨[(.int .i64 (cmpI ((sg sX (val xnX)) * (sg false (val xdY))) ((sg sY (val xnY)) * (sg false (val xdX)))))], ⟨rfl, trivial⟩, ?_⟩
    have p1 : (0 : Int) < sg false (val xdX) := by rw [sg_f]; omega
    have p2 : (0 : Int) < sg false (val xdY) := by rw [sg_f]; omega
    exact ⟨int_eq (cmpQ_of (rcmp_lt p1 p2 eqX eqY) (rcmp_lt p2 p1 eqY eqX)), hE⟩
  ·have hb30p := hb30
   refine RL.gno rfl rfl (bool_eq hb30) rfl (by decide) ?_
   refine rV (r_pick_f (v := (.bool false)) (bool_eq hb30) rfl) (RL.nil ?_)
   refine wcond_f rfl ?_
   refine wskip ?_
   refine wsr ?_
   replace hb4 := hb4.ext (Ext.trans he25 he29)
   have hc74 := hb4.cells (o := 0) (cs := [(.bool sx), vx, ux]) rfl
   refine rV (r_loada (o := 0) (cs := [(.bool sx), vx, ux]) underlying44 ag44 ty44 rfl hc74) ?_
   replace hx := hx.tr (Sm.ext (Ext.trans he25 he29))
   replace hdx := hdx.tr (Sm.ext (Ext.trans he25 he29))
   refine RL.call rfl rfl (by decide) (r_call (vl := [(.agg #[(.bool sx), vx, ux])]) ent67 rfl) (q_parts hx (by assumption) (by first | omega | simp) hdx (by assumption) (by first | omega | simp) (show ratOf sx (val x) (val dx) = qx from ex)) ?_
   rintro _ w75 ⟨⟨sX, vnX, vdX, xnX, xdX, rfl, hnX, lmnX, lnnX, hdX, lmdX, lndX, nzX, eqX⟩, he76⟩
   replace hE := hE.nx he76
   refine mV (v := (.tuple #[(.agg #[(.bool sX), vnX]), vdX])) rfl (rV (r_extract (v := (.agg #[(.bool sX), vnX])) rfl rfl) (rV (r_extract (v := vdX) rfl rfl) ?_))
   refine rU (h_alloc (cs := [(.bool false), (.slice none 0 0)]) ty42 rfl) ?_
   rintro _ w77 ⟨b78, rfl, hs81, hb80, he79⟩
   replace hb9 := hb9.ext (Ext.trans he29 he76)
   have lt_b7_b78 := Nat.lt_of_lt_of_eq hb9.lt hs81.symm
   have ge_b78 := hE.ge hs81
   replace hE := hE.nx he79
   refine RL.runs rfl rfl (h_store (vv := (.agg #[(.bool sX), vnX])) (cs := [(.bool sX), vnX]) (o := 0) ty42 rfl rfl rfl rfl (one_cons rfl (one_cons hnX.one one_nil)) hb80 (Nat.le_of_ble_eq_true rfl)) ?_
   rintro w82 ⟨hn83, hx84, hz85⟩
   replace hE := hE.nb hx84 ge_b78
   have nb_hx84 := (Nb.of hb80 (nu_cons rfl (nu_cons rfl nu_nil)))
   replace hb80 : Bk w82 b78 42 [(.bool sX), vnX] := hn83
   refine aS (v := vdX) rfl (RL.nil (wsr ?_))
   replace hb9 := (hb9.ext he79).exc hx84 (Nat.ne_of_lt lt_b7_b78)
   have hc86 := hb9.cells (o := 0) (cs := [(.bool sy), vy, uy]) rfl
   refine rV (r_loada (o := 0) (cs := [(.bool sy), vy, uy]) underlying44 ag44 ty44 rfl hc86) ?_
   have hm89 := Ext.trans he29 (Ext.trans he76 he79)
   replace hy := (hy.tr (Sm.ext hm89)).apn hx84 nb_hx84
   replace hdy := (hdy.tr (Sm.ext hm89)).apn hx84 nb_hx84
   refine RL.call rfl rfl (by decide) (r_call (vl := [(.agg #[(.bool sy), vy, uy])]) ent67 rfl) (q_parts hy (by assumption) (by first | omega | simp) hdy (by assumption) (by first | omega | simp) (show ratOf sy (val y) (val dy) = qy from ey)) ?_
   rintro _ w87 ⟨⟨sY, vnY, vdY, xnY, xdY, rfl, hnY, lmnY, lnnY, hdY, lmdY, lndY, nzY, eqY⟩, he88⟩
   replace hE := hE.nx he88
   refine mV (v := (.tuple #[(.agg #[(.bool sY), vnY]), vdY])) rfl (rV (r_extract (v := (.agg #[(.bool sY), vnY])) rfl rfl) (rV (r_extract (v := vdY) rfl rfl) ?_))
   refine rU (h_alloc (cs := [(.bool false), (.slice none 0 0)]) ty42 rfl) ?_
   rintro _ w90 ⟨b91, rfl, hs94, hb93, he92⟩
   replace hb80 := hb80.ext he88
   have lt_b78_b91 := Nat.lt_of_lt_of_eq hb80.lt hs94.symm
   have ge_b91 := hE.ge hs94
   replace hE := hE.nx he92
   refine RL.runs rfl rfl (h_store (vv := (.agg #[(.bool sY), vnY])) (cs := [(.bool sY), vnY]) (o := 0) ty42 rfl rfl rfl rfl (one_cons rfl (one_cons hnY.one one_nil)) hb93 (Nat.le_of_ble_eq_true rfl)) ?_
   rintro w95 ⟨hn96, hx97, hz98⟩
   replace hE := hE.nb hx97 ge_b91
   have nb_hx97 := (Nb.of hb93 (nu_cons rfl (nu_cons rfl nu_nil)))
   replace hb93 : Bk w95 b91 42 [(.bool sY), vnY] := hn96
   refine aS (v := vdY) rfl (RL.nil (wseq ?_))
   refine wdraw mixed fun w99 he100 => ?_
   replace hE := hE.nx he100
   replace hb80 := ((hb80.ext he92).exc hx97 (Nat.ne_of_lt lt_b78_b91)).ext he100
   have hc101 := hb80.cells (o := 0) (cs := [(.bool sX), vnX]) rfl
   refine RA.rd 0 rfl (by kernel_rfl) rfl rfl rfl (by decide) (Ext.refl _) (fun u hu => r_loada (o := 0) (cs := [(.bool sX), vnX]) underlying42 ag42 ty42 rfl (fun j v hj => cell_ext hu (hc101 j v hj))) ?_
   refine ra 1 rfl (fun _ => r_move_as (v := vdY) rfl) ?_
   refine ra 2 rfl (fun _ => r_build (vl := [(1, vdY)]) (cs := [(.bool false), vdY]) underlying42 ty42 rfl (pl42 underlying42) (by obtain ⟨_, _, e0_, -, -⟩ := hdY.len; simp only [e0_]; rfl)) ?_
   replace hb93 := hb93.ext he100
   have hc102 := hb93.cells (o := 0) (cs := [(.bool sY), vnY]) rfl
   refine RA.rd 4 rfl (by kernel_rfl) rfl rfl rfl (by decide) (Ext.refl _) (fun u hu => r_loada (o := 0) (cs := [(.bool sY), vnY]) underlying42 ag42 ty42 rfl (fun j v hj => cell_ext hu (hc102 j v hj))) ?_
   refine ra 5 rfl (fun _ => r_move_as (v := vdX) rfl) ?_
   refine ra 6 rfl (fun _ => r_build (vl := [(1, vdX)]) (cs := [(.bool false), vdX]) underlying42 ty42 rfl (pl42 underlying42) (by obtain ⟨_, _, e0_, -, -⟩ := hdX.len; simp only [e0_]; rfl)) ?_
   refine RA.all [3] (by kernel_rfl) rfl ?_
   replace hnX := ((((hnX.tr (Sm.ext he79)).apn hx84 nb_hx84).tr (Sm.ext (Ext.trans he88 he92))).apn hx97 nb_hx97).tr (Sm.ext he100)
   replace hdY := ((hdY.tr (Sm.ext he92)).apn hx97 nb_hx97).tr (Sm.ext he100)
   refine RS.call rfl rfl rfl (by decide) (r_call (vl := [(.agg #[(.bool sX), vnX]), (.agg #[(.bool false), vdY])]) ent79 rfl) (i_mul hnX lmnX (by first | omega | simp) rfl hdY lmdY (by first | omega | simp) rfl) ?_ RS.nil
   rintro _ w103 ⟨⟨vr105, rfl, hr106, hl107⟩, he104⟩
   refine rm he104 ?_
   replace hr106 := hr106.fr hE
   replace hE := hE.nx he104
   refine RA.all [7] (by kernel_rfl) rfl ?_
   replace hnY := ((hnY.tr (Sm.ext he92)).apn hx97 nb_hx97).tr (Sm.ext (Ext.trans he100 he104))
   replace hdX := ((((hdX.tr (Sm.ext he79)).apn hx84 nb_hx84).tr (Sm.ext (Ext.trans he88 he92))).apn hx97 nb_hx97).tr (Sm.ext (Ext.trans he100 he104))
   refine RS.call rfl rfl rfl (by decide) (r_call (vl := [(.agg #[(.bool sY), vnY]), (.agg #[(.bool false), vdX])]) ent79 rfl) (i_mul hnY lmnY (by first | omega | simp) rfl hdX lmdX (by first | omega | simp) rfl) ?_ RS.nil
   rintro _ w108 ⟨⟨vr110, rfl, hr111, hl112⟩, he109⟩
   refine rm he109 ?_
   replace hr111 := hr111.fr hE
   replace hE := hE.nx he109
   refine RA.all [8] (by kernel_rfl) rfl ?_
   replace hr106 := hr106.tr (Sm.ext he109)
   refine RS.call rfl rfl rfl (by decide) (r_call (vl := [(.agg #[(.bool (decide (((sg sX (val xnX)) * (sg false (val xdY))) < 0))), vr105]), (.agg #[(.bool (decide (((sg sY (val xnY)) * (sg false (val xdX))) < 0))), vr110])]) ent89 rfl) (i_compare hr106 (digs_lm _) (by first | omega | simp) (sg_canon _) hr111 (digs_lm _) (by first | omega | simp) (sg_canon _)) ?_ RS.nil
   rintro _ w113 ⟨rfl, he114⟩
   refine rm he114 ?_
   replace hE := hE.nx he114
   refine ra 9 rfl (fun _ => r_assign_as (v := (.int .i64 (cmpI ((sg sX (val xnX)) * (sg false (val xdY))) ((sg sY (val xnY)) * (sg false (val xdX)))))) rfl) ?_
   refine RA.done (by kernel_rfl) ?_
   refine wret ?_
   refine ⟨[(.int .i64 (cmpI ((sg sX (val xnX)) * (sg false (val xdY))) ((sg sY (val xnY)) * (sg false (val xdX)))))], ⟨rfl, trivial⟩, ?_⟩
   have p1 : (0 : Int) < sg false (val xdX) := by rw [sg_f]; omega
   have p2 : (0 : Int) < sg false (val xdY) := by rw [sg_f]; omega
   exact ⟨int_eq (cmpQ_of (rcmp_lt p1 p2 eqX eqY) (rcmp_lt p2 p1 eqY eqX)), hE⟩
end Go.Proofs.YtffgajgibddfmaaGreat
namespace Go.Proofs.YtffgajgibddfmaaGreat
open Go.Vg Go.RowKit _root_.Go.Proofs.Tryz
set_option linter.unusedVariables false
open Go.Vm
set_option maxHeartbeats 4000000 in
theorem q_add {w : World} {sx : Bool} {Dx Ex : Nat → TypeId → Prop} {vx ux : Value} {x dx : List Nat} (hx : Sg (gN .u32) Dx w vx x) (lmx : Lm x) (lnx : x.length ≤ 17179869184) (hdx : Sg (gN .u32) Ex w ux dx) (lmdx : Lm dx) (lndx : dx.length ≤ 17179869184) {qx : Rat} (ex : ratOf sx (val x) (val dx) = qx) {sy : Bool} {Dy Ey : Nat → TypeId → Prop} {vy uy : Value} {y dy : List Nat} (hy : Sg (gN .u32) Dy w vy y) (lmy : Lm y) (lny : y.length ≤ 17179869184) (hdy : Sg (gN .u32) Ey w uy dy) (lmdy : Lm dy) (lndy : dy.length ≤ 17179869184) {qy : Rat} (ey : ratOf sy (val y) (val dy) = qy) :
    Calls Tryz.prog 53 #[(.agg #[(.bool sx), vx, ux]), (.agg #[(.bool sy), vy, uy])] w fun e w' => ∃ v, e = .returned v ∧ (∃ vn vd, v = .agg #[.bool (decide ((qx + qy).num < 0)), vn, vd] ∧ Sg (gN .u32) (fun b T => w.heap.size ≤ b ∧ T = 96) w' vn (digs (qx + qy).num.natAbs) ∧ Sg (gN .u32) (fun b T => w.heap.size ≤ b ∧ T = 96) w' vd (digs (qx + qy).den) ∧ (digs (qx + qy).num.natAbs).length ≤ max (x.length + dy.length) (y.length + dx.length) + 2 ∧ (digs (qx + qy).den).length ≤ dx.length + dy.length + 3) ∧ Ext w w' := by
 have hE : Below w.heap.size w w := Below.refl _ _
 have hlqx := rl_of lmx lmdx ex
 have hdqx := den_one qx
 have hlqy := rl_of lmy lmdy ey
 have hdqy := den_one qy
 refine calls_of (n := 86) (rs := [.cell 4 44]) func53 rfl rfl rfl (Nat.le_of_ble_eq_true rfl) ?_
 refine wset fun F0 hF0 => ?_
 refine wsr ?_
 refine rU (h_box (vv := (.agg #[(.bool sx), vx, ux])) (cs := [(.bool sx), vx, ux]) (hF0 0) rfl) ?_
 rintro _ w1 ⟨b2, rfl, hs5, hb4, he3⟩
 have ge_b2 := hE.ge hs5
 replace hE := hE.nx he3
 refine rU (h_box (vv := (.agg #[(.bool sy), vy, uy])) (cs := [(.bool sy), vy, uy]) (hF0 1) rfl) ?_
 rintro _ w6 ⟨b7, rfl, hs10, hb9, he8⟩
 have lt_b2_b7 := Nat.lt_of_lt_of_eq hb4.lt hs10.symm
 have ge_b7 := hE.ge hs10
 replace hE := hE.nx he8
 refine rU (h_alloc (cs := [(.bool false), (.slice none 0 0), (.slice none 0 0)]) ty44 rfl) ?_
 rintro _ w11 ⟨b12, rfl, hs15, hb14, he13⟩
 have lt_b7_b12 := Nat.lt_of_lt_of_eq hb9.lt hs15.symm
 have ge_b12 := hE.ge hs15
 replace hE := hE.nx he13
 refine RL.nil (wseq (wsr ?_))
 replace hb4 := hb4.ext (Ext.trans he8 he13)
 have hc16 := hb4.cells (o := 0) (cs := [(.bool sx), vx, ux]) rfl
 refine rV (r_loada (o := 0) (cs := [(.bool sx), vx, ux]) underlying44 ag44 ty44 rfl hc16) ?_
 have hm19 := Ext.trans he3 (Ext.trans he8 he13)
 replace hx := hx.tr (Sm.ext hm19)
 replace hdx := hdx.tr (Sm.ext hm19)
 refine RL.call rfl rfl (by decide) (r_call (vl := [(.agg #[(.bool sx), vx, ux])]) ent44 rfl) (q_sign hx (by assumption) (by first | omega | simp) hdx (by assumption) (by first | omega | simp) (show ratOf sx (val x) (val dx) = qx from ex)) ?_
 rintro _ w17 ⟨rfl, he18⟩
 replace hE := hE.nx he18
 refine rV (r_eql (k := .i64) (a := Int.sign qx.num) (b := 0) rfl rfl) (RL.nil ?_)
 refine wcond (b := decide ((Int.sign qx.num) = 0)) rfl (fun hb20 => ?_) (fun hb20 => ?_)
 ·have hb20p := of_decide_eq_true hb20
  have hx0 : qx = 0 := (sign_eq qx).1 hb20p
  refine wsr ?_
  replace hb9 := hb9.ext (Ext.trans he13 he18)
  have hc21 := hb9.cells (o := 0) (cs := [(.bool sy), vy, uy]) rfl
  refine rV (r_loada (o := 0) (cs := [(.bool sy), vy, uy]) underlying44 ag44 ty44 rfl hc21) ?_
  have hm30 := Ext.trans hm19 he18
  replace hy := hy.tr (Sm.ext hm30)
  replace hdy := hdy.tr (Sm.ext hm30)
  refine RL.call rfl rfl (by decide) (r_call (vl := [(.agg #[(.bool sy), vy, uy])]) ent45 rfl) (q_norm hy (by assumption) (by first | omega | simp) hdy (by assumption) (by first | omega | simp) (show ratOf sy (val y) (val dy) = qy from ey)) ?_
  rintro _ w22 ⟨⟨vn24, vd26, rfl, hn25, hd27, hl28, hl29⟩, he23⟩
  have hlv31 := den_one qy
  replace hn25 := hn25.fr hE
  replace hd27 := hd27.fr hE
  replace hE := hE.nx he23
  replace hb14 := hb14.ext (Ext.trans he18 he23)
  refine RL.runs rfl rfl (h_store (vv := (.agg #[(.bool (decide (qy.num < 0))), vn24, vd26])) (cs := [(.bool (decide (qy.num < 0))), vn24, vd26]) (o := 0) ty44 rfl rfl rfl rfl (one_cons rfl (one_cons hn25.one (one_cons hd27.one one_nil))) hb14 (Nat.le_of_ble_eq_true rfl)) ?_
  rintro w32 ⟨hn33, hx34, hz35⟩
  replace hE := hE.nb hx34 ge_b12
  have nb_hx34 := (Nb.of hb14 (nu_cons rfl (nu_cons rfl (nu_cons rfl nu_nil))))
  replace hb14 : Bk w32 b12 44 [(.bool (decide (qy.num < 0))), vn24, vd26] := hn33
  refine RL.nil ?_
  refine wret ?_
  refine ⟨[(.agg #[(.bool (decide (qy.num < 0))), vn24, vd26])], ⟨⟨_, _, [(.bool (decide (qy.num < 0))), vn24, vd26], rfl, ⟨_, underlying44⟩, hb14.cells rfl, .inl ⟨ag44, ⟨_, _, ty44⟩, rfl⟩⟩, trivial⟩, ?_⟩
  have hlr := radd_len qx qy
  have hq : qy = (qx + qy) := by first | (rw [hx0, Rat.zero_add]; done) | (rw [hy0, Rat.add_zero]; done) | exact radd_small hsx1.2.2.1 hsy1.2.2.1 hsx1.2.2.2.2 hsy1.2.2.2.2 | exact radd_same (by omega) eqX (by rw [hxd]; exact eqY) | (rw [Int.natCast_mul]; exact radd_small (by rw [sg_f]; omega) (by rw [sg_f]; omega) eqX eqY)
  replace hn25 := hn25.apn hx34 nb_hx34
  replace hd27 := hd27.apn hx34 nb_hx34
  exact ⟨⟨_, _, agg3 (congrArg (fun z : Rat => decide (z.num < 0)) hq), by rw [← hq]; exact hn25, by rw [← hq]; exact hd27, by omega, by omega⟩, hE⟩
 ·have hb20p := of_decide_eq_false hb20
  refine wskip ?_
  refine wseq (wsr ?_)
  replace hb9 := hb9.ext (Ext.trans he13 he18)
  have hc36 := hb9.cells (o := 0) (cs := [(.bool sy), vy, uy]) rfl
  refine rV (r_loada (o := 0) (cs := [(.bool sy), vy, uy]) underlying44 ag44 ty44 rfl hc36) ?_
  have hm39 := Ext.trans hm19 he18
  replace hy := hy.tr (Sm.ext hm39)
  replace hdy := hdy.tr (Sm.ext hm39)
  refine RL.call rfl rfl (by decide) (r_call (vl := [(.agg #[(.bool sy), vy, uy])]) ent44 rfl) (q_sign hy (by assumption) (by first | omega | simp) hdy (by assumption) (by first | omega | simp) (show ratOf sy (val y) (val dy) = qy from ey)) ?_
  rintro _ w37 ⟨rfl, he38⟩
  replace hE := hE.nx he38
  refine rV (r_eql (k := .i64) (a := Int.sign qy.num) (b := 0) rfl rfl) (RL.nil ?_)
  refine wcond (b := decide ((Int.sign qy.num) = 0)) rfl (fun hb40 => ?_) (fun hb40 => ?_)
  ·have hb40p := of_decide_eq_true hb40
   have hy0 : qy = 0 := (sign_eq qy).1 hb40p
   refine wsr ?_
   replace hb4 := hb4.ext (Ext.trans he18 he38)
   have hc41 := hb4.cells (o := 0) (cs := [(.bool sx), vx, ux]) rfl
   refine rV (r_loada (o := 0) (cs := [(.bool sx), vx, ux]) underlying44 ag44 ty44 rfl hc41) ?_
   replace hx := hx.tr (Sm.ext (Ext.trans he18 he38))
   replace hdx := hdx.tr (Sm.ext (Ext.trans he18 he38))
   refine RL.call rfl rfl (by decide) (r_call (vl := [(.agg #[(.bool sx), vx, ux])]) ent45 rfl) (q_norm hx (by assumption) (by first | omega | simp) hdx (by assumption) (by first | omega | simp) (show ratOf sx (val x) (val dx) = qx from ex)) ?_
   rintro _ w42 ⟨⟨vn44, vd46, rfl, hn45, hd47, hl48, hl49⟩, he43⟩
   have hlv50 := den_one qx
   replace hn45 := hn45.fr hE
   replace hd47 := hd47.fr hE
   replace hE := hE.nx he43
   have hm55 := Ext.trans he18 (Ext.trans he38 he43)
   replace hb14 := hb14.ext hm55
   refine RL.runs rfl rfl (h_store (vv := (.agg #[(.bool (decide (qx.num < 0))), vn44, vd46])) (cs := [(.bool (decide (qx.num < 0))), vn44, vd46]) (o := 0) ty44 rfl rfl rfl rfl (one_cons rfl (one_cons hn45.one (one_cons hd47.one one_nil))) hb14 (Nat.le_of_ble_eq_true rfl)) ?_
   rintro w51 ⟨hn52, hx53, hz54⟩
   replace hE := hE.nb hx53 ge_b12
   have nb_hx53 := (Nb.of hb14 (nu_cons rfl (nu_cons rfl (nu_cons rfl nu_nil))))
   replace hb14 : Bk w51 b12 44 [(.bool (decide (qx.num < 0))), vn44, vd46] := hn52
   refine RL.nil ?_
   refine wret ?_
   refine ⟨[(.agg #[(.bool (decide (qx.num < 0))), vn44, vd46])], ⟨⟨_, _, [(.bool (decide (qx.num < 0))), vn44, vd46], rfl, ⟨_, underlying44⟩, hb14.cells rfl, .inl ⟨ag44, ⟨_, _, ty44⟩, rfl⟩⟩, trivial⟩, ?_⟩
   have hlr := radd_len qx qy
   have hq : qx = (qx + qy) := by first | (rw [hx0, Rat.zero_add]; done) | (rw [hy0, Rat.add_zero]; done) | exact radd_small hsx1.2.2.1 hsy1.2.2.1 hsx1.2.2.2.2 hsy1.2.2.2.2 | exact radd_same (by omega) eqX (by rw [hxd]; exact eqY) | (rw [Int.natCast_mul]; exact radd_small (by rw [sg_f]; omega) (by rw [sg_f]; omega) eqX eqY)
   replace hn45 := hn45.apn hx53 nb_hx53
   replace hd47 := hd47.apn hx53 nb_hx53
   exact ⟨⟨_, _, agg3 (congrArg (fun z : Rat => decide (z.num < 0)) hq), by rw [← hq]; exact hn45, by rw [← hq]; exact hd47, by omega, by omega⟩, hE⟩
  ·have hb40p := of_decide_eq_false hb40
   refine wskip ?_
   refine wsr ?_
   replace hb4 := hb4.ext (Ext.trans he18 he38)
   have hc56 := hb4.cells (o := 0) (cs := [(.bool sx), vx, ux]) rfl
   refine rV (r_loada (o := 0) (cs := [(.bool sx), vx, ux]) underlying44 ag44 ty44 rfl hc56) ?_
   replace hx := hx.tr (Sm.ext (Ext.trans he18 he38))
   replace hdx := hdx.tr (Sm.ext (Ext.trans he18 he38))
   refine RL.call rfl rfl (by decide) (r_call (vl := [(.agg #[(.bool sx), vx, ux])]) ent69 rfl) (q_small hx (by assumption) (by first | omega | simp) hdx (by assumption) (by first | omega | simp) (show ratOf sx (val x) (val dx) = qx from ex)) ?_
   rintro _ w57 ⟨⟨nX, dX, okX, rfl, hsX⟩, he58⟩
   replace hE := hE.nx he58
   refine mV (v := (.tuple #[(.int .i64 (nX)), (.int .i64 (dX)), (.bool okX)])) rfl (rV (r_extract (v := (.int .i64 (nX))) rfl rfl) (rV (r_extract (v := (.int .i64 (dX))) rfl rfl) (rV (r_extract (v := (.bool okX)) rfl rfl) (aS (v := (.int .i64 (nX))) rfl (aS (v := (.int .i64 (dX))) rfl (aS (v := (.bool okX)) rfl (RL.nil (wsr ?_))))))))
   replace hb9 := hb9.ext (Ext.trans he38 he58)
   have hc59 := hb9.cells (o := 0) (cs := [(.bool sy), vy, uy]) rfl
   refine rV (r_loada (o := 0) (cs := [(.bool sy), vy, uy]) underlying44 ag44 ty44 rfl hc59) ?_
   replace hy := hy.tr (Sm.ext (Ext.trans he38 he58))
   replace hdy := hdy.tr (Sm.ext (Ext.trans he38 he58))
   refine RL.call rfl rfl (by decide) (r_call (vl := [(.agg #[(.bool sy), vy, uy])]) ent69 rfl) (q_small hy (by assumption) (by first | omega | simp) hdy (by assumption) (by first | omega | simp) (show ratOf sy (val y) (val dy) = qy from ey)) ?_
   rintro _ w60 ⟨⟨nY, dY, okY, rfl, hsY⟩, he61⟩
   replace hE := hE.nx he61
   refine mV (v := (.tuple #[(.int .i64 (nY)), (.int .i64 (dY)), (.bool okY)])) rfl (rV (r_extract (v := (.int .i64 (nY))) rfl rfl) (rV (r_extract (v := (.int .i64 (dY))) rfl rfl) (rV (r_extract (v := (.bool okY)) rfl rfl) (aS (v := (.int .i64 (nY))) rfl (aS (v := (.int .i64 (dY))) rfl (aS (v := (.bool okY)) rfl (RL.nil (wseq (wsr (mV (v := (.bool okX)) rfl (mV (v := (.bool okX)) rfl ?_)))))))))))
   rcases Bool.eq_false_or_eq_true (okX) with hb62 | hb62
   ·have hb62p := hb62
    have hsx1 := hsX hb62
    refine RL.gval rfl rfl (bool_eq hb62) rfl (by decide) (r_move_as (v := (.bool okY)) rfl) ?_
    refine rV (r_pick_t (v := (.bool okY)) (bool_eq hb62) rfl) (RL.nil ?_)
    refine wcond (b := okY) rfl (fun hb63 => ?_) (fun hb63 => ?_)
    ·have hb63p := hb63
     have hsy1 := hsY hb63
     refine wseq ?_
     have hm1 := mul31 (a := nX) (b := dY) ⟨by omega, by omega⟩ ⟨by omega, by omega⟩
     have hm2 := mul31 (a := nY) (b := dX) ⟨by omega, by omega⟩ ⟨by omega, by omega⟩
     have hm3 := mul31 (a := dX) (b := dY) ⟨by omega, by omega⟩ ⟨by omega, by omega⟩
     have hm4 := mul31 (a := nX) (b := nY) ⟨by omega, by omega⟩ ⟨by omega, by omega⟩
     have hmp := Int.mul_pos hsx1.2.2.1 hsy1.2.2.1
     refine wregion (mV (v := (.int .i64 (nX))) rfl (mV (v := (.int .i64 (dY))) rfl (rV (r_mul (k := .i64) (a := nX) (b := dY) (c := nX * dY) rfl rfl (wi64 (by omega))) (mV (v := (.int .i64 (nY))) rfl (mV (v := (.int .i64 (dX))) rfl (rV (r_mul (k := .i64) (a := nY) (b := dX) (c := nY * dX) rfl rfl (wi64 (by omega))) (rV (r_add (k := .i64) (a := nX * dY) (b := nY * dX) (c := (nX * dY) + (nY * dX)) rfl rfl (wi64 (by omega))) (mV (v := (.int .i64 (dX))) rfl (mV (v := (.int .i64 (dY))) rfl (rV (r_mul (k := .i64) (a := dX) (b := dY) (c := dX * dY) rfl rfl (wi64 (by omega))) ?_))))))))))
     refine cL ent70 (q_quot (by omega) (by omega)) rfl ?_
     rintro _ w64 ⟨⟨vn66, vd68, rfl, hn67, hd69, hl70, hl71⟩, he65⟩
     have hlv72 := den_one (Rat.divInt ((nX * dY) + (nY * dX)) (dX * dY))
     replace hn67 := hn67.fr hE
     replace hd69 := hd69.fr hE
     replace hE := hE.nx he65
     have hm77 := Ext.trans he18 (Ext.trans he38 (Ext.trans he58 (Ext.trans he61 he65)))
     replace hb14 := hb14.ext hm77
     refine RL.runs rfl rfl (h_store (vv := (.agg #[(.bool (decide ((Rat.divInt ((nX * dY) + (nY * dX)) (dX * dY)).num < 0))), vn66, vd68])) (cs := [(.bool (decide ((Rat.divInt ((nX * dY) + (nY * dX)) (dX * dY)).num < 0))), vn66, vd68]) (o := 0) ty44 rfl rfl rfl rfl (one_cons rfl (one_cons hn67.one (one_cons hd69.one one_nil))) hb14 (Nat.le_of_ble_eq_true rfl)) ?_
     rintro w73 ⟨hn74, hx75, hz76⟩
     replace hE := hE.nb hx75 ge_b12
     have nb_hx75 := (Nb.of hb14 (nu_cons rfl (nu_cons rfl (nu_cons rfl nu_nil))))
     replace hb14 : Bk w73 b12 44 [(.bool (decide ((Rat.divInt ((nX * dY) + (nY * dX)) (dX * dY)).num < 0))), vn66, vd68] := hn74
     refine RL.nil ?_
     refine wret ?_
     refine ⟨[(.agg #[(.bool (decide ((Rat.divInt ((nX * dY) + (nY * dX)) (dX * dY)).num < 0))), vn66, vd68])], ⟨⟨_, _, [(.bool (decide ((Rat.divInt ((nX * dY) + (nY * dX)) (dX * dY)).num < 0))), vn66, vd68], rfl, ⟨_, underlying44⟩, hb14.cells rfl, .inl ⟨ag44, ⟨_, _, ty44⟩, rfl⟩⟩, trivial⟩, ?_⟩
     have hlr := radd_len qx qy
     have hq : (Rat.divInt ((nX * dY) + (nY * dX)) (dX * dY)) = (qx + qy) := by first | (rw [hx0, Rat.zero_add]; done) | (rw [hy0, Rat.add_zero]; done) | exact radd_small hsx1.2.2.1 hsy1.2.2.1 hsx1.2.2.2.2 hsy1.2.2.2.2 | exact radd_same (by omega) eqX (by rw [hxd]; exact eqY) | (rw [Int.natCast_mul]; exact radd_small (by rw [sg_f]; omega) (by rw [sg_f]; omega) eqX eqY)
     replace hn67 := hn67.apn hx75 nb_hx75
     replace hd69 := hd69.apn hx75 nb_hx75
     exact ⟨⟨_, _, agg3 (congrArg (fun z : Rat => decide (z.num < 0)) hq), by rw [← hq]; exact hn67, by rw [← hq]; exact hd69, by omega, by omega⟩, hE⟩
    ·have hb63p := hb63
     refine wskip ?_
     refine wsr ?_
     replace hb4 := hb4.ext (Ext.trans he58 he61)
     have hc78 := hb4.cells (o := 0) (cs := [(.bool sx), vx, ux]) rfl
     refine rV (r_loada (o := 0) (cs := [(.bool sx), vx, ux]) underlying44 ag44 ty44 rfl hc78) ?_
     replace hx := hx.tr (Sm.ext (Ext.trans he58 he61))
     replace hdx := hdx.tr (Sm.ext (Ext.trans he58 he61))
     refine RL.call rfl rfl (by decide) (r_call (vl := [(.agg #[(.bool sx), vx, ux])]) ent67 rfl) (q_parts hx (by assumption) (by first | omega | simp) hdx (by assumption) (by first | omega | simp) (show ratOf sx (val x) (val dx) = qx from ex)) ?_
     rintro _ w79 ⟨⟨sX, vnX, vdX, xnX, xdX, rfl, hnX, lmnX, lnnX, hdX, lmdX, lndX, nzX, eqX⟩, he80⟩
     replace hE := hE.nx he80
     refine mV (v := (.tuple #[(.agg #[(.bool sX), vnX]), vdX])) rfl (rV (r_extract (v := (.agg #[(.bool sX), vnX])) rfl rfl) (rV (r_extract (v := vdX) rfl rfl) ?_))
     refine rU (h_alloc (cs := [(.bool false), (.slice none 0 0)]) ty42 rfl) ?_
     rintro _ w81 ⟨b82, rfl, hs85, hb84, he83⟩
     have hm86 := Ext.trans he18 (Ext.trans he38 (Ext.trans he58 (Ext.trans he61 he80)))
     replace hb14 := hb14.ext hm86
     have lt_b12_b82 := Nat.lt_of_lt_of_eq hb14.lt hs85.symm
     have ge_b82 := hE.ge hs85
     replace hE := hE.nx he83
     refine RL.runs rfl rfl (h_store (vv := (.agg #[(.bool sX), vnX])) (cs := [(.bool sX), vnX]) (o := 0) ty42 rfl rfl rfl rfl (one_cons rfl (one_cons hnX.one one_nil)) hb84 (Nat.le_of_ble_eq_true rfl)) ?_
     rintro w87 ⟨hn88, hx89, hz90⟩
     replace hE := hE.nb hx89 ge_b82
     have nb_hx89 := (Nb.of hb84 (nu_cons rfl (nu_cons rfl nu_nil)))
     replace hb84 : Bk w87 b82 42 [(.bool sX), vnX] := hn88
     refine aS (v := vdX) rfl (RL.nil (wsr ?_))
     have hm92 := Ext.trans he61 (Ext.trans he80 he83)
     replace hb9 := (hb9.ext hm92).exc hx89 (Nat.ne_of_lt (Nat.lt_trans lt_b7_b12 lt_b12_b82))
     have hc91 := hb9.cells (o := 0) (cs := [(.bool sy), vy, uy]) rfl
     refine rV (r_loada (o := 0) (cs := [(.bool sy), vy, uy]) underlying44 ag44 ty44 rfl hc91) ?_
     replace hy := (hy.tr (Sm.ext hm92)).apn hx89 nb_hx89
     replace hdy := (hdy.tr (Sm.ext hm92)).apn hx89 nb_hx89
     refine RL.call rfl rfl (by decide) (r_call (vl := [(.agg #[(.bool sy), vy, uy])]) ent67 rfl) (q_parts hy (by assumption) (by first | omega | simp) hdy (by assumption) (by first | omega | simp) (show ratOf sy (val y) (val dy) = qy from ey)) ?_
     rintro _ w93 ⟨⟨sY, vnY, vdY, xnY, xdY, rfl, hnY, lmnY, lnnY, hdY, lmdY, lndY, nzY, eqY⟩, he94⟩
     replace hE := hE.nx he94
     refine mV (v := (.tuple #[(.agg #[(.bool sY), vnY]), vdY])) rfl (rV (r_extract (v := (.agg #[(.bool sY), vnY])) rfl rfl) (rV (r_extract (v := vdY) rfl rfl) ?_))
     refine rU (h_alloc (cs := [(.bool false), (.slice none 0 0)]) ty42 rfl) ?_
     rintro _ w95 ⟨b96, rfl, hs99, hb98, he97⟩
     replace hb84 := hb84.ext he94
     have lt_b82_b96 := Nat.lt_of_lt_of_eq hb84.lt hs99.symm
     have ge_b96 := hE.ge hs99
     replace hE := hE.nx he97
     refine RL.runs rfl rfl (h_store (vv := (.agg #[(.bool sY), vnY])) (cs := [(.bool sY), vnY]) (o := 0) ty42 rfl rfl rfl rfl (one_cons rfl (one_cons hnY.one one_nil)) hb98 (Nat.le_of_ble_eq_true rfl)) ?_
     rintro w100 ⟨hn101, hx102, hz103⟩
     replace hE := hE.nb hx102 ge_b96
     have nb_hx102 := (Nb.of hb98 (nu_cons rfl (nu_cons rfl nu_nil)))
     replace hb98 : Bk w100 b96 42 [(.bool sY), vnY] := hn101
     refine aS (v := vdY) rfl (RL.nil (wseq (wsr (mV (v := vdX) rfl (mV (v := vdY) rfl ?_)))))
     replace hdX := (((hdX.tr (Sm.ext he83)).apn hx89 nb_hx89).tr (Sm.ext (Ext.trans he94 he97))).apn hx102 nb_hx102
     replace hdY := (hdY.tr (Sm.ext he97)).apn hx102 nb_hx102
     refine cL ent77 (n_compare hdX lmdX (by first | omega | simp) hdY lmdY (by first | omega | simp)) rfl ?_
     rintro vq107 w104 ⟨hq106, he105⟩
     subst hq106
     replace hE := hE.nx he105
     refine rV (r_eql (k := .i64) (a := cmpI (((val xdX) : Nat) : Int) (((val xdY) : Nat) : Int)) (b := 0) rfl rfl) (RL.nil ?_)
     refine wcond (b := decide ((cmpI (((val xdX) : Nat) : Int) (((val xdY) : Nat) : Int)) = 0)) rfl (fun hb108 => ?_) (fun hb108 => ?_)
     ·have hb108p := of_decide_eq_true hb108
      have hxd : val xdX = val xdY := by have h9 := cmpI_zero.1 hb108p; omega
      refine wsr ?_
      replace hb84 := ((hb84.ext he97).exc hx102 (Nat.ne_of_lt lt_b82_b96)).ext he105
      have hc109 := hb84.cells (o := 0) (cs := [(.bool sX), vnX]) rfl
      refine rV (r_loada (o := 0) (cs := [(.bool sX), vnX]) underlying42 ag42 ty42 rfl hc109) ?_
      replace hb98 := hb98.ext he105
      have hc110 := hb98.cells (o := 0) (cs := [(.bool sY), vnY]) rfl
      refine rV (r_loada (o := 0) (cs := [(.bool sY), vnY]) underlying42 ag42 ty42 rfl hc110) ?_
      replace hnX := ((((hnX.tr (Sm.ext he83)).apn hx89 nb_hx89).tr (Sm.ext (Ext.trans he94 he97))).apn hx102 nb_hx102).tr (Sm.ext he105)
      replace hnY := ((hnY.tr (Sm.ext he97)).apn hx102 nb_hx102).tr (Sm.ext he105)
      refine RL.call rfl rfl (by decide) (r_call (vl := [(.agg #[(.bool sX), vnX]), (.agg #[(.bool sY), vnY])]) ent78 rfl) (i_add hnX lmnX (by first | omega | simp) rfl hnY lmnY (by first | omega | simp) rfl) ?_
      rintro _ w111 ⟨⟨vr113, rfl, hr114, hl115⟩, he112⟩
      replace hr114 := hr114.fr hE
      replace hE := hE.nx he112
      refine mV (v := vdX) rfl ?_
      replace hdX := hdX.tr (Sm.ext (Ext.trans he105 he112))
      refine RL.call rfl rfl (by decide) (r_call (vl := [(.agg #[(.bool (decide (((sg sX (val xnX)) + (sg sY (val xnY))) < 0))), vr113]), vdX]) ent71 rfl) (q_lowest hr114 (digs_lm _) (by first | omega | simp) (sg_canon _) hdX lmdX (by first | omega | simp) (by first | assumption | exact hnz)) ?_
      rintro vv124 w116 ⟨⟨vn118, vd120, hv125, hn119, hd121, hl122, hl123⟩, he117⟩
      subst hv125
      have hlv126 := den_one (Rat.divInt ((sg sX (val xnX)) + (sg sY (val xnY))) (((val xdX) : Nat) : Int))
      replace hn119 := hn119.fr hE
      replace hd121 := hd121.fr hE
      replace hE := hE.nx he117
      have hm131 := Ext.trans he105 (Ext.trans he112 he117)
      replace hb14 := ((((hb14.ext he83).exc hx89 (Nat.ne_of_lt lt_b12_b82)).ext (Ext.trans he94 he97)).exc hx102 (Nat.ne_of_lt (Nat.lt_trans lt_b12_b82 lt_b82_b96))).ext hm131
      refine RL.runs rfl rfl (h_store (vv := (.agg #[(.bool (decide ((Rat.divInt ((sg sX (val xnX)) + (sg sY (val xnY))) (((val xdX) : Nat) : Int)).num < 0))), vn118, vd120])) (cs := [(.bool (decide ((Rat.divInt ((sg sX (val xnX)) + (sg sY (val xnY))) (((val xdX) : Nat) : Int)).num < 0))), vn118, vd120]) (o := 0) ty44 rfl rfl rfl rfl (one_cons rfl (one_cons hn119.one (one_cons hd121.one one_nil))) hb14 (Nat.le_of_ble_eq_true rfl)) ?_
      rintro w127 ⟨hn128, hx129, hz130⟩
      replace hE := hE.nb hx129 ge_b12
      have nb_hx129 := (Nb.of hb14 (nu_cons rfl (nu_cons rfl (nu_cons rfl nu_nil))))
      replace hb14 : Bk w127 b12 44 [(.bool (decide ((Rat.divInt ((sg sX (val xnX)) + (sg sY (val xnY))) (((val xdX) : Nat) : Int)).num < 0))), vn118, vd120] := hn128
      refine RL.nil ?_
      refine wret ?_
      refine ⟨[(.agg #[(.bool (decide ((Rat.divInt ((sg sX (val xnX)) + (sg sY (val xnY))) (((val xdX) : Nat) : Int)).num < 0))), vn118, vd120])], ⟨⟨_, _, [(.bool (decide ((Rat.divInt ((sg sX (val xnX)) + (sg sY (val xnY))) (((val xdX) : Nat) : Int)).num < 0))), vn118, vd120], rfl, ⟨_, underlying44⟩, hb14.cells rfl, .inl ⟨ag44, ⟨_, _, ty44⟩, rfl⟩⟩, trivial⟩, ?_⟩
      have hlr := radd_len qx qy
      have hq : (Rat.divInt ((sg sX (val xnX)) + (sg sY (val xnY))) (((val xdX) : Nat) : Int)) = (qx + qy) := by first | (rw [hx0, Rat.zero_add]; done) | (rw [hy0, Rat.add_zero]; done) | exact radd_small hsx1.2.2.1 hsy1.2.2.1 hsx1.2.2.2.2 hsy1.2.2.2.2 | exact radd_same (by omega) eqX (by rw [hxd]; exact eqY) | (rw [Int.natCast_mul]; exact radd_small (by rw [sg_f]; omega) (by rw [sg_f]; omega) eqX eqY)
      replace hn119 := hn119.apn hx129 nb_hx129
      replace hd121 := hd121.apn hx129 nb_hx129
      exact ⟨⟨_, _, agg3 (congrArg (fun z : Rat => decide (z.num < 0)) hq), by rw [← hq]; exact hn119, by rw [← hq]; exact hd121, by omega, by omega⟩, hE⟩
     ·have hb108p := of_decide_eq_false hb108
      refine wskip ?_
      refine wset fun F132 hF133 => ?_
      refine wcut (fun fl wl => ∃ b155 : Nat, ∃ vr140 : Value, ∃ vr145 : Value, ∃ vr151 : Value, Off [15, 72, 73, 74, 75, 76, 77, 78, 79, 80] F132 fl ∧ fl 15 = (.pointer (some ⟨b155, 0, none⟩)) ∧ (w.heap.size ≤ b155) ∧ (b96 < b155) ∧ (Sg (gN .u32) Dx wl vx x) ∧ (Sg (gN .u32) Dy wl vy y) ∧ (Sg (gN .u32) Ex wl ux dx) ∧ (Sg (gN .u32) Ey wl uy dy) ∧ (Below w.heap.size w wl) ∧ (Bk wl b2 44 [(.bool sx), vx, ux]) ∧ (Bk wl b7 44 [(.bool sy), vy, uy]) ∧ (Bk wl b12 44 [(.bool false), (.slice none 0 0), (.slice none 0 0)]) ∧ (Sg (gN .u32) (fun _ _ => True) wl vnX xnX) ∧ (Sg (gN .u32) (fun _ _ => True) wl vdX xdX) ∧ (Bk wl b82 42 [(.bool sX), vnX]) ∧ (Sg (gN .u32) (fun _ _ => True) wl vnY xnY) ∧ (Sg (gN .u32) (fun _ _ => True) wl vdY xdY) ∧ (Bk wl b96 42 [(.bool sY), vnY]) ∧ (Sg (gN .u32) (fun b T => w.heap.size ≤ b ∧ T = 96) wl vr140 (digs ((sg sX (val xnX)) * (sg false (val xdY))).natAbs)) ∧ (Sg (gN .u32) (fun b T => w.heap.size ≤ b ∧ T = 96) wl vr145 (digs ((sg sY (val xnY)) * (sg false (val xdX))).natAbs)) ∧ (Sg (gN .u32) (fun b T => w.heap.size ≤ b ∧ T = 96) wl vr151 (digs (((sg sX (val xnX)) * (sg false (val xdY))) + ((sg sY (val xnY)) * (sg false (val xdX)))).natAbs)) ∧ (Bk wl b155 42 [(.bool (decide ((((sg sX (val xnX)) * (sg false (val xdY))) + ((sg sY (val xnY)) * (sg false (val xdX)))) < 0))), vr151])) ?_ ?_
      ·have hoff164 := Off.refl [15, 72, 73, 74, 75, 76, 77, 78, 79, 80] F132
       refine wdraw mixed fun w165 he166 => ?_
       replace hE := hE.nx he166
       replace hb84 := ((hb84.ext he97).exc hx102 (Nat.ne_of_lt lt_b82_b96)).ext (Ext.trans he105 he166)
       have hc167 := hb84.cells (o := 0) (cs := [(.bool sX), vnX]) rfl
       refine RA.rd 0 rfl (by kernel_rfl) rfl rfl rfl (by decide) (Ext.refl _) (fun u hu => r_loada (o := 0) (cs := [(.bool sX), vnX]) underlying42 ag42 ty42 (hF133 11) (fun j v hj => cell_ext hu (hc167 j v hj))) ?_
       refine ra 1 rfl (fun _ => r_move_as (v := vdY) (hF133 14)) ?_
       refine ra 2 rfl (fun _ => r_build (vl := [(1, vdY)]) (cs := [(.bool false), vdY]) underlying42 ty42 rfl (pl42 underlying42) (by obtain ⟨_, _, e0_, -, -⟩ := hdY.len; simp only [e0_]; rfl)) ?_
       replace hb98 := hb98.ext (Ext.trans he105 he166)
       have hc168 := hb98.cells (o := 0) (cs := [(.bool sY), vnY]) rfl
       refine RA.rd 4 rfl (by kernel_rfl) rfl rfl rfl (by decide) (Ext.refl _) (fun u hu => r_loada (o := 0) (cs := [(.bool sY), vnY]) underlying42 ag42 ty42 (hF133 13) (fun j v hj => cell_ext hu (hc168 j v hj))) ?_
       refine ra 5 rfl (fun _ => r_move_as (v := vdX) (hF133 12)) ?_
       refine ra 6 rfl (fun _ => r_build (vl := [(1, vdX)]) (cs := [(.bool false), vdX]) underlying42 ty42 rfl (pl42 underlying42) (by obtain ⟨_, _, e0_, -, -⟩ := hdX.len; simp only [e0_]; rfl)) ?_
       refine RA.all [3, 9] (by kernel_rfl) rfl ?_
       replace hnX := ((((hnX.tr (Sm.ext he83)).apn hx89 nb_hx89).tr (Sm.ext (Ext.trans he94 he97))).apn hx102 nb_hx102).tr (Sm.ext (Ext.trans he105 he166))
       replace hdY := hdY.tr (Sm.ext (Ext.trans he105 he166))
       refine RS.call rfl rfl rfl (by decide) (r_call (vl := [(.agg #[(.bool sX), vnX]), (.agg #[(.bool false), vdY])]) ent79 rfl) (i_mul hnX lmnX (by first | omega | simp) rfl hdY lmdY (by first | omega | simp) rfl) ?_ ?_
       ·rintro _ w169 ⟨⟨vr171, rfl, hr172, hl173⟩, he170⟩
        refine rm he170 ?_
        replace hr172 := hr172.fr hE
        replace hE := hE.nx he170
        refine RA.all [7, 9] (by kernel_rfl) rfl ?_
        have hm179 := Ext.trans he105 (Ext.trans he166 he170)
        replace hnY := ((hnY.tr (Sm.ext he97)).apn hx102 nb_hx102).tr (Sm.ext hm179)
        replace hdX := hdX.tr (Sm.ext hm179)
        refine RS.call rfl rfl rfl (by decide) (r_call (vl := [(.agg #[(.bool sY), vnY]), (.agg #[(.bool false), vdX])]) ent79 rfl) (i_mul hnY lmnY (by first | omega | simp) rfl hdX lmdX (by first | omega | simp) rfl) ?_ ?_
        ·rintro _ w174 ⟨⟨vr176, rfl, hr177, hl178⟩, he175⟩
         refine rm he175 ?_
         replace hr177 := hr177.fr hE
         replace hE := hE.nx he175
         refine RA.all [8, 9] (by kernel_rfl) rfl ?_
         replace hr172 := hr172.tr (Sm.ext he175)
         refine RS.call rfl rfl rfl (by decide) (r_call (vl := [(.agg #[(.bool (decide (((sg sX (val xnX)) * (sg false (val xdY))) < 0))), vr171]), (.agg #[(.bool (decide (((sg sY (val xnY)) * (sg false (val xdX))) < 0))), vr176])]) ent78 rfl) (i_add hr172 (digs_lm _) (by first | omega | simp) (sg_canon _) hr177 (digs_lm _) (by first | omega | simp) (sg_canon _)) ?_ ?_
         ·rintro _ w180 ⟨⟨vr182, rfl, hr183, hl184⟩, he181⟩
          refine rm he181 ?_
          replace hr183 := hr183.fr hE
          replace hE := hE.nx he181
          refine RA.all [9] (by kernel_rfl) rfl ?_
          refine RS.run rfl rfl rfl (by decide) (h_alloc (cs := [(.bool false), (.slice none 0 0)]) ty42 rfl) ?_ RS.nil
          rintro _ w185 ⟨b186, rfl, hs189, hb188, he187⟩
          refine rm he187 ?_
          have hm190 := Ext.trans he170 (Ext.trans he175 he181)
          replace hb98 := hb98.ext hm190
          have lt_b96_b186 := Nat.lt_of_lt_of_eq hb98.lt hs189.symm
          have ge_b186 := hE.ge hs189
          replace hE := hE.nx he187
          refine RA.all [10] (by kernel_rfl) rfl ?_
          refine RS.runs rfl rfl rfl (h_store (vv := (.agg #[(.bool (decide ((((sg sX (val xnX)) * (sg false (val xdY))) + ((sg sY (val xnY)) * (sg false (val xdX)))) < 0))), vr182])) (cs := [(.bool (decide ((((sg sX (val xnX)) * (sg false (val xdY))) + ((sg sY (val xnY)) * (sg false (val xdX)))) < 0))), vr182]) (o := 0) ty42 rfl rfl rfl rfl (one_cons rfl (one_cons hr183.one one_nil)) hb188 (Nat.le_of_ble_eq_true rfl)) ?_ RS.nil
          rintro w191 ⟨hn192, hx193, hz194⟩
          refine ⟨.inr (.inl (by kernel_rfl)), ?_⟩
          replace hE := hE.nb hx193 ge_b186
          have nb_hx193 := (Nb.of hb188 (nu_cons rfl (nu_cons rfl nu_nil)))
          replace hb188 : Bk w191 b186 42 [(.bool (decide ((((sg sX (val xnX)) * (sg false (val xdY))) + ((sg sY (val xnY)) * (sg false (val xdX)))) < 0))), vr182] := hn192
          refine RA.done (by kernel_rfl) ?_
          have hm195 := Ext.trans he105 (Ext.trans he166 (Ext.trans he170 (Ext.trans he175 (Ext.trans he181 he187))))
          replace hx := (((((hx.tr (Sm.ext (Ext.trans he80 he83))).apn hx89 nb_hx89).tr (Sm.ext (Ext.trans he94 he97))).apn hx102 nb_hx102).tr (Sm.ext hm195)).apn hx193 nb_hx193
          replace hy := (((hy.tr (Sm.ext (Ext.trans he94 he97))).apn hx102 nb_hx102).tr (Sm.ext hm195)).apn hx193 nb_hx193
          replace hdx := (((((hdx.tr (Sm.ext (Ext.trans he80 he83))).apn hx89 nb_hx89).tr (Sm.ext (Ext.trans he94 he97))).apn hx102 nb_hx102).tr (Sm.ext hm195)).apn hx193 nb_hx193
          replace hdy := (((hdy.tr (Sm.ext (Ext.trans he94 he97))).apn hx102 nb_hx102).tr (Sm.ext hm195)).apn hx193 nb_hx193
          replace hb4 := (((((hb4.ext (Ext.trans he80 he83)).exc hx89 (Nat.ne_of_lt (Nat.lt_trans lt_b2_b7 (Nat.lt_trans lt_b7_b12 lt_b12_b82)))).ext (Ext.trans he94 he97)).exc hx102 (Nat.ne_of_lt (Nat.lt_trans lt_b2_b7 (Nat.lt_trans lt_b7_b12 (Nat.lt_trans lt_b12_b82 lt_b82_b96))))).ext hm195).exc hx193 (Nat.ne_of_lt (Nat.lt_trans lt_b2_b7 (Nat.lt_trans lt_b7_b12 (Nat.lt_trans lt_b12_b82 (Nat.lt_trans lt_b82_b96 lt_b96_b186)))))
          replace hb9 := (((hb9.ext (Ext.trans he94 he97)).exc hx102 (Nat.ne_of_lt (Nat.lt_trans lt_b7_b12 (Nat.lt_trans lt_b12_b82 lt_b82_b96)))).ext hm195).exc hx193 (Nat.ne_of_lt (Nat.lt_trans lt_b7_b12 (Nat.lt_trans lt_b12_b82 (Nat.lt_trans lt_b82_b96 lt_b96_b186))))
          replace hb14 := (((((hb14.ext he83).exc hx89 (Nat.ne_of_lt lt_b12_b82)).ext (Ext.trans he94 he97)).exc hx102 (Nat.ne_of_lt (Nat.lt_trans lt_b12_b82 lt_b82_b96))).ext hm195).exc hx193 (Nat.ne_of_lt (Nat.lt_trans lt_b12_b82 (Nat.lt_trans lt_b82_b96 lt_b96_b186)))
          have hm196 := Ext.trans hm190 he187
          replace hnX := (hnX.tr (Sm.ext hm196)).apn hx193 nb_hx193
          have hm197 := Ext.trans he175 (Ext.trans he181 he187)
          replace hdX := (hdX.tr (Sm.ext hm197)).apn hx193 nb_hx193
          replace hb84 := (hb84.ext hm196).exc hx193 (Nat.ne_of_lt (Nat.lt_trans lt_b82_b96 lt_b96_b186))
          replace hnY := (hnY.tr (Sm.ext hm197)).apn hx193 nb_hx193
          replace hdY := (hdY.tr (Sm.ext hm196)).apn hx193 nb_hx193
          replace hb98 := (hb98.ext he187).exc hx193 (Nat.ne_of_lt lt_b96_b186)
          replace hr172 := (hr172.tr (Sm.ext (Ext.trans he181 he187))).apn hx193 nb_hx193
          replace hr177 := (hr177.tr (Sm.ext (Ext.trans he181 he187))).apn hx193 nb_hx193
          replace hr183 := (hr183.tr (Sm.ext he187)).apn hx193 nb_hx193
          refine ⟨b186, vr171, vr176, vr182, ?_, ?_, ?_, ?_, ?_, ?_, ?_, ?_, ?_, ?_, ?_, ?_, ?_, ?_, ?_, ?_, ?_, ?_, ?_, ?_, ?_, ?_⟩
          · exact (by repeat (first | exact hoff164 | refine Off.st ?_ (by decide) _))
          · exact rfl
          · exact ge_b186
          · exact lt_b96_b186
          · exact hx
          · exact hy
          · exact hdx
          · exact hdy
          · exact hE
          · exact hb4
          · exact hb9
          · exact hb14
          · exact hnX
          · exact hdX
          · exact hb84
          · exact hnY
          · exact hdY
          · exact hb98
          · exact hr172
          · exact hr177
          · exact hr183
          · exact hb188
         ·refine RS.run rfl rfl rfl (by decide) (h_alloc (cs := [(.bool false), (.slice none 0 0)]) ty42 rfl) ?_ RS.nil
          rintro _ w198 ⟨b199, rfl, hs202, hb201, he200⟩
          refine rm he200 ?_
          replace hb98 := hb98.ext (Ext.trans he170 he175)
          have lt_b96_b199 := Nat.lt_of_lt_of_eq hb98.lt hs202.symm
          have ge_b199 := hE.ge hs202
          replace hE := hE.nx he200
          refine RA.all [8] (by kernel_rfl) rfl ?_
          replace hr172 := hr172.tr (Sm.ext he200)
          replace hr177 := hr177.tr (Sm.ext he200)
          refine RS.call rfl rfl rfl (by decide) (r_call (vl := [(.agg #[(.bool (decide (((sg sX (val xnX)) * (sg false (val xdY))) < 0))), vr171]), (.agg #[(.bool (decide (((sg sY (val xnY)) * (sg false (val xdX))) < 0))), vr176])]) ent78 rfl) (i_add hr172 (digs_lm _) (by first | omega | simp) (sg_canon _) hr177 (digs_lm _) (by first | omega | simp) (sg_canon _)) ?_ RS.nil
          rintro _ w203 ⟨⟨vr205, rfl, hr206, hl207⟩, he204⟩
          refine rm he204 ?_
          replace hr206 := hr206.fr hE
          replace hE := hE.nx he204
          refine RA.all [10] (by kernel_rfl) rfl ?_
          replace hb201 := hb201.ext he204
          refine RS.runs rfl rfl rfl (h_store (vv := (.agg #[(.bool (decide ((((sg sX (val xnX)) * (sg false (val xdY))) + ((sg sY (val xnY)) * (sg false (val xdX)))) < 0))), vr205])) (cs := [(.bool (decide ((((sg sX (val xnX)) * (sg false (val xdY))) + ((sg sY (val xnY)) * (sg false (val xdX)))) < 0))), vr205]) (o := 0) ty42 rfl rfl rfl rfl (one_cons rfl (one_cons hr206.one one_nil)) hb201 (Nat.le_of_ble_eq_true rfl)) ?_ RS.nil
          rintro w208 ⟨hn209, hx210, hz211⟩
          refine ⟨.inr (.inl (by kernel_rfl)), ?_⟩
          replace hE := hE.nb hx210 ge_b199
          have nb_hx210 := (Nb.of hb201 (nu_cons rfl (nu_cons rfl nu_nil)))
          replace hb201 : Bk w208 b199 42 [(.bool (decide ((((sg sX (val xnX)) * (sg false (val xdY))) + ((sg sY (val xnY)) * (sg false (val xdX)))) < 0))), vr205] := hn209
          refine RA.done (by kernel_rfl) ?_
          have hm212 := Ext.trans he105 (Ext.trans he166 (Ext.trans he170 (Ext.trans he175 (Ext.trans he200 he204))))
          replace hx := (((((hx.tr (Sm.ext (Ext.trans he80 he83))).apn hx89 nb_hx89).tr (Sm.ext (Ext.trans he94 he97))).apn hx102 nb_hx102).tr (Sm.ext hm212)).apn hx210 nb_hx210
          replace hy := (((hy.tr (Sm.ext (Ext.trans he94 he97))).apn hx102 nb_hx102).tr (Sm.ext hm212)).apn hx210 nb_hx210
          replace hdx := (((((hdx.tr (Sm.ext (Ext.trans he80 he83))).apn hx89 nb_hx89).tr (Sm.ext (Ext.trans he94 he97))).apn hx102 nb_hx102).tr (Sm.ext hm212)).apn hx210 nb_hx210
          replace hdy := (((hdy.tr (Sm.ext (Ext.trans he94 he97))).apn hx102 nb_hx102).tr (Sm.ext hm212)).apn hx210 nb_hx210
          replace hb4 := (((((hb4.ext (Ext.trans he80 he83)).exc hx89 (Nat.ne_of_lt (Nat.lt_trans lt_b2_b7 (Nat.lt_trans lt_b7_b12 lt_b12_b82)))).ext (Ext.trans he94 he97)).exc hx102 (Nat.ne_of_lt (Nat.lt_trans lt_b2_b7 (Nat.lt_trans lt_b7_b12 (Nat.lt_trans lt_b12_b82 lt_b82_b96))))).ext hm212).exc hx210 (Nat.ne_of_lt (Nat.lt_trans lt_b2_b7 (Nat.lt_trans lt_b7_b12 (Nat.lt_trans lt_b12_b82 (Nat.lt_trans lt_b82_b96 lt_b96_b199)))))
          replace hb9 := (((hb9.ext (Ext.trans he94 he97)).exc hx102 (Nat.ne_of_lt (Nat.lt_trans lt_b7_b12 (Nat.lt_trans lt_b12_b82 lt_b82_b96)))).ext hm212).exc hx210 (Nat.ne_of_lt (Nat.lt_trans lt_b7_b12 (Nat.lt_trans lt_b12_b82 (Nat.lt_trans lt_b82_b96 lt_b96_b199))))
          replace hb14 := (((((hb14.ext he83).exc hx89 (Nat.ne_of_lt lt_b12_b82)).ext (Ext.trans he94 he97)).exc hx102 (Nat.ne_of_lt (Nat.lt_trans lt_b12_b82 lt_b82_b96))).ext hm212).exc hx210 (Nat.ne_of_lt (Nat.lt_trans lt_b12_b82 (Nat.lt_trans lt_b82_b96 lt_b96_b199)))
          have hm213 := Ext.trans he170 (Ext.trans he175 (Ext.trans he200 he204))
          replace hnX := (hnX.tr (Sm.ext hm213)).apn hx210 nb_hx210
          have hm214 := Ext.trans he175 (Ext.trans he200 he204)
          replace hdX := (hdX.tr (Sm.ext hm214)).apn hx210 nb_hx210
          replace hb84 := (hb84.ext hm213).exc hx210 (Nat.ne_of_lt (Nat.lt_trans lt_b82_b96 lt_b96_b199))
          replace hnY := (hnY.tr (Sm.ext hm214)).apn hx210 nb_hx210
          replace hdY := (hdY.tr (Sm.ext hm213)).apn hx210 nb_hx210
          replace hb98 := (hb98.ext (Ext.trans he200 he204)).exc hx210 (Nat.ne_of_lt lt_b96_b199)
          replace hr172 := (hr172.tr (Sm.ext he204)).apn hx210 nb_hx210
          replace hr177 := (hr177.tr (Sm.ext he204)).apn hx210 nb_hx210
          replace hr206 := hr206.apn hx210 nb_hx210
          refine ⟨b199, vr171, vr176, vr205, ?_, ?_, ?_, ?_, ?_, ?_, ?_, ?_, ?_, ?_, ?_, ?_, ?_, ?_, ?_, ?_, ?_, ?_, ?_, ?_, ?_, ?_⟩
          · exact (by repeat (first | exact hoff164 | refine Off.st ?_ (by decide) _))
          · exact rfl
          · exact ge_b199
          · exact lt_b96_b199
          · exact hx
          · exact hy
          · exact hdx
          · exact hdy
          · exact hE
          · exact hb4
          · exact hb9
          · exact hb14
          · exact hnX
          · exact hdX
          · exact hb84
          · exact hnY
          · exact hdY
          · exact hb98
          · exact hr172
          · exact hr177
          · exact hr206
          · exact hb201
        ·refine RS.run rfl rfl rfl (by decide) (h_alloc (cs := [(.bool false), (.slice none 0 0)]) ty42 rfl) ?_ RS.nil
         rintro _ w215 ⟨b216, rfl, hs219, hb218, he217⟩
         refine rm he217 ?_
         replace hb98 := hb98.ext he170
         have lt_b96_b216 := Nat.lt_of_lt_of_eq hb98.lt hs219.symm
         have ge_b216 := hE.ge hs219
         replace hE := hE.nx he217
         refine RA.all [7] (by kernel_rfl) rfl ?_
         replace hnY := hnY.tr (Sm.ext he217)
         replace hdX := hdX.tr (Sm.ext he217)
         refine RS.call rfl rfl rfl (by decide) (r_call (vl := [(.agg #[(.bool sY), vnY]), (.agg #[(.bool false), vdX])]) ent79 rfl) (i_mul hnY lmnY (by first | omega | simp) rfl hdX lmdX (by first | omega | simp) rfl) ?_ RS.nil
         rintro _ w220 ⟨⟨vr222, rfl, hr223, hl224⟩, he221⟩
         refine rm he221 ?_
         replace hr223 := hr223.fr hE
         replace hE := hE.nx he221
         refine RA.all [8] (by kernel_rfl) rfl ?_
         replace hr172 := hr172.tr (Sm.ext (Ext.trans he217 he221))
         refine RS.call rfl rfl rfl (by decide) (r_call (vl := [(.agg #[(.bool (decide (((sg sX (val xnX)) * (sg false (val xdY))) < 0))), vr171]), (.agg #[(.bool (decide (((sg sY (val xnY)) * (sg false (val xdX))) < 0))), vr222])]) ent78 rfl) (i_add hr172 (digs_lm _) (by first | omega | simp) (sg_canon _) hr223 (digs_lm _) (by first | omega | simp) (sg_canon _)) ?_ RS.nil
         rintro _ w225 ⟨⟨vr227, rfl, hr228, hl229⟩, he226⟩
         refine rm he226 ?_
         replace hr228 := hr228.fr hE
         replace hE := hE.nx he226
         refine RA.all [10] (by kernel_rfl) rfl ?_
         replace hb218 := hb218.ext (Ext.trans he221 he226)
         refine RS.runs rfl rfl rfl (h_store (vv := (.agg #[(.bool (decide ((((sg sX (val xnX)) * (sg false (val xdY))) + ((sg sY (val xnY)) * (sg false (val xdX)))) < 0))), vr227])) (cs := [(.bool (decide ((((sg sX (val xnX)) * (sg false (val xdY))) + ((sg sY (val xnY)) * (sg false (val xdX)))) < 0))), vr227]) (o := 0) ty42 rfl rfl rfl rfl (one_cons rfl (one_cons hr228.one one_nil)) hb218 (Nat.le_of_ble_eq_true rfl)) ?_ RS.nil
         rintro w230 ⟨hn231, hx232, hz233⟩
         refine ⟨.inr (.inl (by kernel_rfl)), ?_⟩
         replace hE := hE.nb hx232 ge_b216
         have nb_hx232 := (Nb.of hb218 (nu_cons rfl (nu_cons rfl nu_nil)))
         replace hb218 : Bk w230 b216 42 [(.bool (decide ((((sg sX (val xnX)) * (sg false (val xdY))) + ((sg sY (val xnY)) * (sg false (val xdX)))) < 0))), vr227] := hn231
         refine RA.done (by kernel_rfl) ?_
         have hm234 := Ext.trans he105 (Ext.trans he166 (Ext.trans he170 (Ext.trans he217 (Ext.trans he221 he226))))
         replace hx := (((((hx.tr (Sm.ext (Ext.trans he80 he83))).apn hx89 nb_hx89).tr (Sm.ext (Ext.trans he94 he97))).apn hx102 nb_hx102).tr (Sm.ext hm234)).apn hx232 nb_hx232
         replace hy := (((hy.tr (Sm.ext (Ext.trans he94 he97))).apn hx102 nb_hx102).tr (Sm.ext hm234)).apn hx232 nb_hx232
         replace hdx := (((((hdx.tr (Sm.ext (Ext.trans he80 he83))).apn hx89 nb_hx89).tr (Sm.ext (Ext.trans he94 he97))).apn hx102 nb_hx102).tr (Sm.ext hm234)).apn hx232 nb_hx232
         replace hdy := (((hdy.tr (Sm.ext (Ext.trans he94 he97))).apn hx102 nb_hx102).tr (Sm.ext hm234)).apn hx232 nb_hx232
         replace hb4 := (((((hb4.ext (Ext.trans he80 he83)).exc hx89 (Nat.ne_of_lt (Nat.lt_trans lt_b2_b7 (Nat.lt_trans lt_b7_b12 lt_b12_b82)))).ext (Ext.trans he94 he97)).exc hx102 (Nat.ne_of_lt (Nat.lt_trans lt_b2_b7 (Nat.lt_trans lt_b7_b12 (Nat.lt_trans lt_b12_b82 lt_b82_b96))))).ext hm234).exc hx232 (Nat.ne_of_lt (Nat.lt_trans lt_b2_b7 (Nat.lt_trans lt_b7_b12 (Nat.lt_trans lt_b12_b82 (Nat.lt_trans lt_b82_b96 lt_b96_b216)))))
         replace hb9 := (((hb9.ext (Ext.trans he94 he97)).exc hx102 (Nat.ne_of_lt (Nat.lt_trans lt_b7_b12 (Nat.lt_trans lt_b12_b82 lt_b82_b96)))).ext hm234).exc hx232 (Nat.ne_of_lt (Nat.lt_trans lt_b7_b12 (Nat.lt_trans lt_b12_b82 (Nat.lt_trans lt_b82_b96 lt_b96_b216))))
         replace hb14 := (((((hb14.ext he83).exc hx89 (Nat.ne_of_lt lt_b12_b82)).ext (Ext.trans he94 he97)).exc hx102 (Nat.ne_of_lt (Nat.lt_trans lt_b12_b82 lt_b82_b96))).ext hm234).exc hx232 (Nat.ne_of_lt (Nat.lt_trans lt_b12_b82 (Nat.lt_trans lt_b82_b96 lt_b96_b216)))
         have hm235 := Ext.trans he170 (Ext.trans he217 (Ext.trans he221 he226))
         replace hnX := (hnX.tr (Sm.ext hm235)).apn hx232 nb_hx232
         replace hdX := (hdX.tr (Sm.ext (Ext.trans he221 he226))).apn hx232 nb_hx232
         replace hb84 := (hb84.ext hm235).exc hx232 (Nat.ne_of_lt (Nat.lt_trans lt_b82_b96 lt_b96_b216))
         replace hnY := (hnY.tr (Sm.ext (Ext.trans he221 he226))).apn hx232 nb_hx232
         replace hdY := (hdY.tr (Sm.ext hm235)).apn hx232 nb_hx232
         have hm236 := Ext.trans he217 (Ext.trans he221 he226)
         replace hb98 := (hb98.ext hm236).exc hx232 (Nat.ne_of_lt lt_b96_b216)
         replace hr172 := (hr172.tr (Sm.ext he226)).apn hx232 nb_hx232
         replace hr223 := (hr223.tr (Sm.ext he226)).apn hx232 nb_hx232
         replace hr228 := hr228.apn hx232 nb_hx232
         refine ⟨b216, vr171, vr222, vr227, ?_, ?_, ?_, ?_, ?_, ?_, ?_, ?_, ?_, ?_, ?_, ?_, ?_, ?_, ?_, ?_, ?_, ?_, ?_, ?_, ?_, ?_⟩
         · exact (by repeat (first | exact hoff164 | refine Off.st ?_ (by decide) _))
         · exact rfl
         · exact ge_b216
         · exact lt_b96_b216
         · exact hx
         · exact hy
         · exact hdx
         · exact hdy
         · exact hE
         · exact hb4
         · exact hb9
         · exact hb14
         · exact hnX
         · exact hdX
         · exact hb84
         · exact hnY
         · exact hdY
         · exact hb98
         · exact hr172
         · exact hr223
         · exact hr228
         · exact hb218
       ·refine RS.run rfl rfl rfl (by decide) (h_alloc (cs := [(.bool false), (.slice none 0 0)]) ty42 rfl) ?_ RS.nil
        rintro _ w237 ⟨b238, rfl, hs241, hb240, he239⟩
        refine rm he239 ?_
        have lt_b96_b238 := Nat.lt_of_lt_of_eq hb98.lt hs241.symm
        have ge_b238 := hE.ge hs241
        replace hE := hE.nx he239
        refine RA.all [3] (by kernel_rfl) rfl ?_
        replace hnX := hnX.tr (Sm.ext he239)
        replace hdY := hdY.tr (Sm.ext he239)
        refine RS.call rfl rfl rfl (by decide) (r_call (vl := [(.agg #[(.bool sX), vnX]), (.agg #[(.bool false), vdY])]) ent79 rfl) (i_mul hnX lmnX (by first | omega | simp) rfl hdY lmdY (by first | omega | simp) rfl) ?_ RS.nil
        rintro _ w242 ⟨⟨vr244, rfl, hr245, hl246⟩, he243⟩
        refine rm he243 ?_
        replace hr245 := hr245.fr hE
        replace hE := hE.nx he243
        refine RA.all [7] (by kernel_rfl) rfl ?_
        have hm252 := Ext.trans he105 (Ext.trans he166 (Ext.trans he239 he243))
        replace hnY := ((hnY.tr (Sm.ext he97)).apn hx102 nb_hx102).tr (Sm.ext hm252)
        replace hdX := hdX.tr (Sm.ext hm252)
        refine RS.call rfl rfl rfl (by decide) (r_call (vl := [(.agg #[(.bool sY), vnY]), (.agg #[(.bool false), vdX])]) ent79 rfl) (i_mul hnY lmnY (by first | omega | simp) rfl hdX lmdX (by first | omega | simp) rfl) ?_ RS.nil
        rintro _ w247 ⟨⟨vr249, rfl, hr250, hl251⟩, he248⟩
        refine rm he248 ?_
        replace hr250 := hr250.fr hE
        replace hE := hE.nx he248
        refine RA.all [8] (by kernel_rfl) rfl ?_
        replace hr245 := hr245.tr (Sm.ext he248)
        refine RS.call rfl rfl rfl (by decide) (r_call (vl := [(.agg #[(.bool (decide (((sg sX (val xnX)) * (sg false (val xdY))) < 0))), vr244]), (.agg #[(.bool (decide (((sg sY (val xnY)) * (sg false (val xdX))) < 0))), vr249])]) ent78 rfl) (i_add hr245 (digs_lm _) (by first | omega | simp) (sg_canon _) hr250 (digs_lm _) (by first | omega | simp) (sg_canon _)) ?_ RS.nil
        rintro _ w253 ⟨⟨vr255, rfl, hr256, hl257⟩, he254⟩
        refine rm he254 ?_
        replace hr256 := hr256.fr hE
        replace hE := hE.nx he254
        refine RA.all [10] (by kernel_rfl) rfl ?_
        have hm262 := Ext.trans he243 (Ext.trans he248 he254)
        replace hb240 := hb240.ext hm262
        refine RS.runs rfl rfl rfl (h_store (vv := (.agg #[(.bool (decide ((((sg sX (val xnX)) * (sg false (val xdY))) + ((sg sY (val xnY)) * (sg false (val xdX)))) < 0))), vr255])) (cs := [(.bool (decide ((((sg sX (val xnX)) * (sg false (val xdY))) + ((sg sY (val xnY)) * (sg false (val xdX)))) < 0))), vr255]) (o := 0) ty42 rfl rfl rfl rfl (one_cons rfl (one_cons hr256.one one_nil)) hb240 (Nat.le_of_ble_eq_true rfl)) ?_ RS.nil
        rintro w258 ⟨hn259, hx260, hz261⟩
        refine ⟨.inr (.inl (by kernel_rfl)), ?_⟩
        replace hE := hE.nb hx260 ge_b238
        have nb_hx260 := (Nb.of hb240 (nu_cons rfl (nu_cons rfl nu_nil)))
        replace hb240 : Bk w258 b238 42 [(.bool (decide ((((sg sX (val xnX)) * (sg false (val xdY))) + ((sg sY (val xnY)) * (sg false (val xdX)))) < 0))), vr255] := hn259
        refine RA.done (by kernel_rfl) ?_
        have hm263 := Ext.trans he105 (Ext.trans he166 (Ext.trans he239 (Ext.trans he243 (Ext.trans he248 he254))))
        replace hx := (((((hx.tr (Sm.ext (Ext.trans he80 he83))).apn hx89 nb_hx89).tr (Sm.ext (Ext.trans he94 he97))).apn hx102 nb_hx102).tr (Sm.ext hm263)).apn hx260 nb_hx260
        replace hy := (((hy.tr (Sm.ext (Ext.trans he94 he97))).apn hx102 nb_hx102).tr (Sm.ext hm263)).apn hx260 nb_hx260
        replace hdx := (((((hdx.tr (Sm.ext (Ext.trans he80 he83))).apn hx89 nb_hx89).tr (Sm.ext (Ext.trans he94 he97))).apn hx102 nb_hx102).tr (Sm.ext hm263)).apn hx260 nb_hx260
        replace hdy := (((hdy.tr (Sm.ext (Ext.trans he94 he97))).apn hx102 nb_hx102).tr (Sm.ext hm263)).apn hx260 nb_hx260
        replace hb4 := (((((hb4.ext (Ext.trans he80 he83)).exc hx89 (Nat.ne_of_lt (Nat.lt_trans lt_b2_b7 (Nat.lt_trans lt_b7_b12 lt_b12_b82)))).ext (Ext.trans he94 he97)).exc hx102 (Nat.ne_of_lt (Nat.lt_trans lt_b2_b7 (Nat.lt_trans lt_b7_b12 (Nat.lt_trans lt_b12_b82 lt_b82_b96))))).ext hm263).exc hx260 (Nat.ne_of_lt (Nat.lt_trans lt_b2_b7 (Nat.lt_trans lt_b7_b12 (Nat.lt_trans lt_b12_b82 (Nat.lt_trans lt_b82_b96 lt_b96_b238)))))
        replace hb9 := (((hb9.ext (Ext.trans he94 he97)).exc hx102 (Nat.ne_of_lt (Nat.lt_trans lt_b7_b12 (Nat.lt_trans lt_b12_b82 lt_b82_b96)))).ext hm263).exc hx260 (Nat.ne_of_lt (Nat.lt_trans lt_b7_b12 (Nat.lt_trans lt_b12_b82 (Nat.lt_trans lt_b82_b96 lt_b96_b238))))
        replace hb14 := (((((hb14.ext he83).exc hx89 (Nat.ne_of_lt lt_b12_b82)).ext (Ext.trans he94 he97)).exc hx102 (Nat.ne_of_lt (Nat.lt_trans lt_b12_b82 lt_b82_b96))).ext hm263).exc hx260 (Nat.ne_of_lt (Nat.lt_trans lt_b12_b82 (Nat.lt_trans lt_b82_b96 lt_b96_b238)))
        replace hnX := (hnX.tr (Sm.ext hm262)).apn hx260 nb_hx260
        replace hdX := (hdX.tr (Sm.ext (Ext.trans he248 he254))).apn hx260 nb_hx260
        have hm264 := Ext.trans he239 (Ext.trans he243 (Ext.trans he248 he254))
        replace hb84 := (hb84.ext hm264).exc hx260 (Nat.ne_of_lt (Nat.lt_trans lt_b82_b96 lt_b96_b238))
        replace hnY := (hnY.tr (Sm.ext (Ext.trans he248 he254))).apn hx260 nb_hx260
        replace hdY := (hdY.tr (Sm.ext hm262)).apn hx260 nb_hx260
        replace hb98 := (hb98.ext hm264).exc hx260 (Nat.ne_of_lt lt_b96_b238)
        replace hr245 := (hr245.tr (Sm.ext he254)).apn hx260 nb_hx260
        replace hr250 := (hr250.tr (Sm.ext he254)).apn hx260 nb_hx260
        replace hr256 := hr256.apn hx260 nb_hx260
        refine ⟨b238, vr244, vr249, vr255, ?_, ?_, ?_, ?_, ?_, ?_, ?_, ?_, ?_, ?_, ?_, ?_, ?_, ?_, ?_, ?_, ?_, ?_, ?_, ?_, ?_, ?_⟩
        · exact (by repeat (first | exact hoff164 | refine Off.st ?_ (by decide) _))
        · exact rfl
        · exact ge_b238
        · exact lt_b96_b238
        · exact hx
        · exact hy
        · exact hdx
        · exact hdy
        · exact hE
        · exact hb4
        · exact hb9
        · exact hb14
        · exact hnX
        · exact hdX
        · exact hb84
        · exact hnY
        · exact hdY
        · exact hb98
        · exact hr245
        · exact hr250
        · exact hr256
        · exact hb240
      ·clear hx hy hdx hdy hE hb4 hb9 hb14 hnX hdX hb84 hnY hdY hb98
       rintro f265 w266 ⟨b155, vr140, vr145, vr151, hoff267, hs268, ge_b155, lt_b96_b155, hx, hy, hdx, hdy, hE, hb4, hb9, hb14, hnX, hdX, hb84, hnY, hdY, hb98, hr141, hr146, hr152, hb157⟩
       refine wseq ?_
       have hi1 := il_add (sg sX (val xnX) * sg false (val xdY)) (sg sY (val xnY) * sg false (val xdX))
       have hi2 := il_mul (sg sX (val xnX)) (sg false (val xdY))
       have hi3 := il_mul (sg sY (val xnY)) (sg false (val xdX))
       have hi4 := il_le (b := sX) lmnX rfl
       have hi5 := il_le (b := sY) lmnY rfl
       have hi6 := il_le (b := false) lmdX rfl
       have hi7 := il_le (b := false) lmdY rfl
       have hnz : val (digs (val xdX * val xdY)) ≠ 0 := by rw [val_digs]; exact Nat.mul_ne_zero nzX nzY
       refine wdraw mixed fun w269 he270 => ?_
       replace hE := hE.nx he270
       replace hb157 := hb157.ext he270
       have hc271 := hb157.cells (o := 0) (cs := [(.bool (decide ((((sg sX (val xnX)) * (sg false (val xdY))) + ((sg sY (val xnY)) * (sg false (val xdX)))) < 0))), vr151]) rfl
       refine RA.rd 0 rfl (by kernel_rfl) rfl rfl rfl (by decide) (Ext.refl _) (fun u hu => r_loada (o := 0) (cs := [(.bool (decide ((((sg sX (val xnX)) * (sg false (val xdY))) + ((sg sY (val xnY)) * (sg false (val xdX)))) < 0))), vr151]) underlying42 ag42 ty42 hs268 (fun j v hj => cell_ext hu (hc271 j v hj))) ?_
       refine ra 1 rfl (fun _ => r_move_as (v := vdX) ((hoff267 12 rfl).trans (hF133 12))) ?_
       refine ra 2 rfl (fun _ => r_move_as (v := vdY) ((hoff267 14 rfl).trans (hF133 14))) ?_
       refine RA.all [3] (by kernel_rfl) rfl ?_
       replace hdX := hdX.tr (Sm.ext he270)
       replace hdY := hdY.tr (Sm.ext he270)
       refine RS.call rfl rfl rfl (by decide) (r_call (vl := [vdX, vdY]) ent80 rfl) (n_mul hdX lmdX (by first | omega | simp) hdY lmdY (by first | omega | simp)) ?_ RS.nil
       rintro vr274 w272 ⟨hr275, he273⟩
       refine rm he273 ?_
       replace hr275 := hr275.fr hE
       replace hE := hE.nx he273
       have hlv276 := dl_val (x := xdX) lmdX
       have hlv277 := dl_val (x := xdY) lmdY
       have hlv278 := dl_mul (val xdX) (val xdY)
       refine RA.all [4] (by kernel_rfl) rfl ?_
       replace hr152 := hr152.tr (Sm.ext (Ext.trans he270 he273))
       refine RS.call rfl rfl rfl (by decide) (r_call (vl := [(.agg #[(.bool (decide ((((sg sX (val xnX)) * (sg false (val xdY))) + ((sg sY (val xnY)) * (sg false (val xdX)))) < 0))), vr151]), vr274]) ent71 rfl) (q_lowest hr152 (digs_lm _) (by first | omega | simp) (sg_canon _) hr275 (digs_lm _) (by first | omega | simp) (by first | assumption | exact hnz)) ?_ RS.nil
       rintro vv287 w279 ⟨⟨vn281, vd283, hv288, hn282, hd284, hl285, hl286⟩, he280⟩
       refine rm he280 ?_
       simp only [val_digs] at hv288
       subst hv288
       simp only [val_digs] at hn282 hd284 hl285 hl286
       have hlv289 := den_one (Rat.divInt (((sg sX (val xnX)) * (sg false (val xdY))) + ((sg sY (val xnY)) * (sg false (val xdX)))) ((((val xdX) * (val xdY)) : Nat) : Int))
       replace hn282 := hn282.fr hE
       replace hd284 := hd284.fr hE
       replace hE := hE.nx he280
       refine RA.all [5] (by kernel_rfl) rfl ?_
       have hm294 := Ext.trans he270 (Ext.trans he273 he280)
       replace hb14 := hb14.ext hm294
       refine RS.runs rfl rfl rfl (h_store (vv := (.agg #[(.bool (decide ((Rat.divInt (((sg sX (val xnX)) * (sg false (val xdY))) + ((sg sY (val xnY)) * (sg false (val xdX)))) ((((val xdX) * (val xdY)) : Nat) : Int)).num < 0))), vn281, vd283])) (cs := [(.bool (decide ((Rat.divInt (((sg sX (val xnX)) * (sg false (val xdY))) + ((sg sY (val xnY)) * (sg false (val xdX)))) ((((val xdX) * (val xdY)) : Nat) : Int)).num < 0))), vn281, vd283]) (o := 0) ty44 ((hoff267 4 rfl).trans (hF133 4)) rfl rfl rfl (one_cons rfl (one_cons hn282.one (one_cons hd284.one one_nil))) hb14 (Nat.le_of_ble_eq_true rfl)) ?_ RS.nil
       rintro w290 ⟨hn291, hx292, hz293⟩
       refine ⟨.inr (.inl (by kernel_rfl)), ?_⟩
       replace hE := hE.nb hx292 ge_b12
       have nb_hx292 := (Nb.of hb14 (nu_cons rfl (nu_cons rfl (nu_cons rfl nu_nil))))
       replace hb14 : Bk w290 b12 44 [(.bool (decide ((Rat.divInt (((sg sX (val xnX)) * (sg false (val xdY))) + ((sg sY (val xnY)) * (sg false (val xdX)))) ((((val xdX) * (val xdY)) : Nat) : Int)).num < 0))), vn281, vd283] := hn291
       refine RA.done (by kernel_rfl) ?_
       refine wret ?_
       refine ⟨[(.agg #[(.bool (decide ((Rat.divInt (((sg sX (val xnX)) * (sg false (val xdY))) + ((sg sY (val xnY)) * (sg false (val xdX)))) ((((val xdX) * (val xdY)) : Nat) : Int)).num < 0))), vn281, vd283])], ⟨⟨_, _, [(.bool (decide ((Rat.divInt (((sg sX (val xnX)) * (sg false (val xdY))) + ((sg sY (val xnY)) * (sg false (val xdX)))) ((((val xdX) * (val xdY)) : Nat) : Int)).num < 0))), vn281, vd283], ((hoff267 4 rfl).trans (hF133 4)), ⟨_, underlying44⟩, hb14.cells rfl, .inl ⟨ag44, ⟨_, _, ty44⟩, rfl⟩⟩, trivial⟩, ?_⟩
       have hlr := radd_len qx qy
       have hq : (Rat.divInt (((sg sX (val xnX)) * (sg false (val xdY))) + ((sg sY (val xnY)) * (sg false (val xdX)))) ((((val xdX) * (val xdY)) : Nat) : Int)) = (qx + qy) := by first | (rw [hx0, Rat.zero_add]; done) | (rw [hy0, Rat.add_zero]; done) | exact radd_small hsx1.2.2.1 hsy1.2.2.1 hsx1.2.2.2.2 hsy1.2.2.2.2 | exact radd_same (by omega) eqX (by rw [hxd]; exact eqY) | (rw [Int.natCast_mul]; exact radd_small (by rw [sg_f]; omega) (by rw [sg_f]; omega) eqX eqY)
       replace hn282 := hn282.apn hx292 nb_hx292
       replace hd284 := hd284.apn hx292 nb_hx292
       exact ⟨⟨_, _, agg3 (congrArg (fun z : Rat => decide (z.num < 0)) hq), by rw [← hq]; exact hn282, by rw [← hq]; exact hd284, by omega, by omega⟩, hE⟩
   ·have hb62p := hb62
    refine RL.gno rfl rfl (bool_eq hb62) rfl (by decide) ?_
    refine rV (r_pick_f (v := (.bool false)) (bool_eq hb62) rfl) (RL.nil ?_)
    refine wcond_f rfl ?_
    refine wskip ?_
    refine wsr ?_
    replace hb4 := hb4.ext (Ext.trans he58 he61)
    have hc295 := hb4.cells (o := 0) (cs := [(.bool sx), vx, ux]) rfl
    refine rV (r_loada (o := 0) (cs := [(.bool sx), vx, ux]) underlying44 ag44 ty44 rfl hc295) ?_
    replace hx := hx.tr (Sm.ext (Ext.trans he58 he61))
    replace hdx := hdx.tr (Sm.ext (Ext.trans he58 he61))
    refine RL.call rfl rfl (by decide) (r_call (vl := [(.agg #[(.bool sx), vx, ux])]) ent67 rfl) (q_parts hx (by assumption) (by first | omega | simp) hdx (by assumption) (by first | omega | simp) (show ratOf sx (val x) (val dx) = qx from ex)) ?_
    rintro _ w296 ⟨⟨sX, vnX, vdX, xnX, xdX, rfl, hnX, lmnX, lnnX, hdX, lmdX, lndX, nzX, eqX⟩, he297⟩
    replace hE := hE.nx he297
    refine mV (v := (.tuple #[(.agg #[(.bool sX), vnX]), vdX])) rfl (rV (r_extract (v := (.agg #[(.bool sX), vnX])) rfl rfl) (rV (r_extract (v := vdX) rfl rfl) ?_))
    refine rU (h_alloc (cs := [(.bool false), (.slice none 0 0)]) ty42 rfl) ?_
    rintro _ w298 ⟨b299, rfl, hs302, hb301, he300⟩
    have hm303 := Ext.trans he18 (Ext.trans he38 (Ext.trans he58 (Ext.trans he61 he297)))
    replace hb14 := hb14.ext hm303
    have lt_b12_b299 := Nat.lt_of_lt_of_eq hb14.lt hs302.symm
    have ge_b299 := hE.ge hs302
    replace hE := hE.nx he300
    refine RL.runs rfl rfl (h_store (vv := (.agg #[(.bool sX), vnX])) (cs := [(.bool sX), vnX]) (o := 0) ty42 rfl rfl rfl rfl (one_cons rfl (one_cons hnX.one one_nil)) hb301 (Nat.le_of_ble_eq_true rfl)) ?_
    rintro w304 ⟨hn305, hx306, hz307⟩
    replace hE := hE.nb hx306 ge_b299
    have nb_hx306 := (Nb.of hb301 (nu_cons rfl (nu_cons rfl nu_nil)))
    replace hb301 : Bk w304 b299 42 [(.bool sX), vnX] := hn305
    refine aS (v := vdX) rfl (RL.nil (wsr ?_))
    have hm309 := Ext.trans he61 (Ext.trans he297 he300)
    replace hb9 := (hb9.ext hm309).exc hx306 (Nat.ne_of_lt (Nat.lt_trans lt_b7_b12 lt_b12_b299))
    have hc308 := hb9.cells (o := 0) (cs := [(.bool sy), vy, uy]) rfl
    refine rV (r_loada (o := 0) (cs := [(.bool sy), vy, uy]) underlying44 ag44 ty44 rfl hc308) ?_
    replace hy := (hy.tr (Sm.ext hm309)).apn hx306 nb_hx306
    replace hdy := (hdy.tr (Sm.ext hm309)).apn hx306 nb_hx306
    refine RL.call rfl rfl (by decide) (r_call (vl := [(.agg #[(.bool sy), vy, uy])]) ent67 rfl) (q_parts hy (by assumption) (by first | omega | simp) hdy (by assumption) (by first | omega | simp) (show ratOf sy (val y) (val dy) = qy from ey)) ?_
    rintro _ w310 ⟨⟨sY, vnY, vdY, xnY, xdY, rfl, hnY, lmnY, lnnY, hdY, lmdY, lndY, nzY, eqY⟩, he311⟩
    replace hE := hE.nx he311
    refine mV (v := (.tuple #[(.agg #[(.bool sY), vnY]), vdY])) rfl (rV (r_extract (v := (.agg #[(.bool sY), vnY])) rfl rfl) (rV (r_extract (v := vdY) rfl rfl) ?_))
    refine rU (h_alloc (cs := [(.bool false), (.slice none 0 0)]) ty42 rfl) ?_
    rintro _ w312 ⟨b313, rfl, hs316, hb315, he314⟩
    replace hb301 := hb301.ext he311
    have lt_b299_b313 := Nat.lt_of_lt_of_eq hb301.lt hs316.symm
    have ge_b313 := hE.ge hs316
    replace hE := hE.nx he314
    refine RL.runs rfl rfl (h_store (vv := (.agg #[(.bool sY), vnY])) (cs := [(.bool sY), vnY]) (o := 0) ty42 rfl rfl rfl rfl (one_cons rfl (one_cons hnY.one one_nil)) hb315 (Nat.le_of_ble_eq_true rfl)) ?_
    rintro w317 ⟨hn318, hx319, hz320⟩
    replace hE := hE.nb hx319 ge_b313
    have nb_hx319 := (Nb.of hb315 (nu_cons rfl (nu_cons rfl nu_nil)))
    replace hb315 : Bk w317 b313 42 [(.bool sY), vnY] := hn318
    refine aS (v := vdY) rfl (RL.nil (wseq (wsr (mV (v := vdX) rfl (mV (v := vdY) rfl ?_)))))
    replace hdX := (((hdX.tr (Sm.ext he300)).apn hx306 nb_hx306).tr (Sm.ext (Ext.trans he311 he314))).apn hx319 nb_hx319
    replace hdY := (hdY.tr (Sm.ext he314)).apn hx319 nb_hx319
    refine cL ent77 (n_compare hdX lmdX (by first | omega | simp) hdY lmdY (by first | omega | simp)) rfl ?_
    rintro vq324 w321 ⟨hq323, he322⟩
    subst hq323
    replace hE := hE.nx he322
    refine rV (r_eql (k := .i64) (a := cmpI (((val xdX) : Nat) : Int) (((val xdY) : Nat) : Int)) (b := 0) rfl rfl) (RL.nil ?_)
    refine wcond (b := decide ((cmpI (((val xdX) : Nat) : Int) (((val xdY) : Nat) : Int)) = 0)) rfl (fun hb325 => ?_) (fun hb325 => ?_)
    ·have hb325p := of_decide_eq_true hb325
     have hxd : val xdX = val xdY := by have h9 := cmpI_zero.1 hb325p; omega
     refine wsr ?_
     replace hb301 := ((hb301.ext he314).exc hx319 (Nat.ne_of_lt lt_b299_b313)).ext he322
     have hc326 := hb301.cells (o := 0) (cs := [(.bool sX), vnX]) rfl
     refine rV (r_loada (o := 0) (cs := [(.bool sX), vnX]) underlying42 ag42 ty42 rfl hc326) ?_
     replace hb315 := hb315.ext he322
     have hc327 := hb315.cells (o := 0) (cs := [(.bool sY), vnY]) rfl
     refine rV (r_loada (o := 0) (cs := [(.bool sY), vnY]) underlying42 ag42 ty42 rfl hc327) ?_
     replace hnX := ((((hnX.tr (Sm.ext he300)).apn hx306 nb_hx306).tr (Sm.ext (Ext.trans he311 he314))).apn hx319 nb_hx319).tr (Sm.ext he322)
     replace hnY := ((hnY.tr (Sm.ext he314)).apn hx319 nb_hx319).tr (Sm.ext he322)
     refine RL.call rfl rfl (by decide) (r_call (vl := [(.agg #[(.bool sX), vnX]), (.agg #[(.bool sY), vnY])]) ent78 rfl) (i_add hnX lmnX (by first | omega | simp) rfl hnY lmnY (by first | omega | simp) rfl) ?_
     rintro _ w328 ⟨⟨vr330, rfl, hr331, hl332⟩, he329⟩
     replace hr331 := hr331.fr hE
     replace hE := hE.nx he329
     refine mV (v := vdX) rfl ?_
     replace hdX := hdX.tr (Sm.ext (Ext.trans he322 he329))
     refine RL.call rfl rfl (by decide) (r_call (vl := [(.agg #[(.bool (decide (((sg sX (val xnX)) + (sg sY (val xnY))) < 0))), vr330]), vdX]) ent71 rfl) (q_lowest hr331 (digs_lm _) (by first | omega | simp) (sg_canon _) hdX lmdX (by first | omega | simp) (by first | assumption | exact hnz)) ?_
     rintro vv341 w333 ⟨⟨vn335, vd337, hv342, hn336, hd338, hl339, hl340⟩, he334⟩
     subst hv342
     have hlv343 := den_one (Rat.divInt ((sg sX (val xnX)) + (sg sY (val xnY))) (((val xdX) : Nat) : Int))
     replace hn336 := hn336.fr hE
     replace hd338 := hd338.fr hE
     replace hE := hE.nx he334
     have hm348 := Ext.trans he322 (Ext.trans he329 he334)
     replace hb14 := ((((hb14.ext he300).exc hx306 (Nat.ne_of_lt lt_b12_b299)).ext (Ext.trans he311 he314)).exc hx319 (Nat.ne_of_lt (Nat.lt_trans lt_b12_b299 lt_b299_b313))).ext hm348
     refine RL.runs rfl rfl (h_store (vv := (.agg #[(.bool (decide ((Rat.divInt ((sg sX (val xnX)) + (sg sY (val xnY))) (((val xdX) : Nat) : Int)).num < 0))), vn335, vd337])) (cs := [(.bool (decide ((Rat.divInt ((sg sX (val xnX)) + (sg sY (val xnY))) (((val xdX) : Nat) : Int)).num < 0))), vn335, vd337]) (o := 0) ty44 rfl rfl rfl rfl (one_cons rfl (one_cons hn336.one (one_cons hd338.one one_nil))) hb14 (Nat.le_of_ble_eq_true rfl)) ?_
     rintro w344 ⟨hn345, hx346, hz347⟩
     replace hE := hE.nb hx346 ge_b12
     have nb_hx346 := (Nb.of hb14 (nu_cons rfl (nu_cons rfl (nu_cons rfl nu_nil))))
     replace hb14 : Bk w344 b12 44 [(.bool (decide ((Rat.divInt ((sg sX (val xnX)) + (sg sY (val xnY))) (((val xdX) : Nat) : Int)).num < 0))), vn335, vd337] := hn345
     refine RL.nil ?_
     refine wret ?_
     refine ⟨[(.agg #[(.bool (decide ((Rat.divInt ((sg sX (val xnX)) + (sg sY (val xnY))) (((val xdX) : Nat) : Int)).num < 0))), vn335, vd337])], ⟨⟨_, _, [(.bool (decide ((Rat.divInt ((sg sX (val xnX)) + (sg sY (val xnY))) (((val xdX) : Nat) : Int)).num < 0))), vn335, vd337], rfl, ⟨_, underlying44⟩, hb14.cells rfl, .inl ⟨ag44, ⟨_, _, ty44⟩, rfl⟩⟩, trivial⟩, ?_⟩
     have hlr := radd_len qx qy
     have hq : (Rat.divInt ((sg sX (val xnX)) + (sg sY (val xnY))) (((val xdX) : Nat) : Int)) = (qx + qy) := by first | (rw [hx0, Rat.zero_add]; done) | (rw [hy0, Rat.add_zero]; done) | exact radd_small hsx1.2.2.1 hsy1.2.2.1 hsx1.2.2.2.2 hsy1.2.2.2.2 | exact radd_same (by omega) eqX (by rw [hxd]; exact eqY) | (rw [Int.natCast_mul]; exact radd_small (by rw [sg_f]; omega) (by rw [sg_f]; omega) eqX eqY)
     replace hn336 := hn336.apn hx346 nb_hx346
     replace hd338 := hd338.apn hx346 nb_hx346
     exact ⟨⟨_, _, agg3 (congrArg (fun z : Rat => decide (z.num < 0)) hq), by rw [← hq]; exact hn336, by rw [← hq]; exact hd338, by omega, by omega⟩, hE⟩
    ·have hb325p := of_decide_eq_false hb325
     refine wskip ?_
     refine wset fun F349 hF350 => ?_
     refine wcut (fun fl wl => ∃ b372 : Nat, ∃ vr357 : Value, ∃ vr362 : Value, ∃ vr368 : Value, Off [15, 72, 73, 74, 75, 76, 77, 78, 79, 80] F349 fl ∧ fl 15 = (.pointer (some ⟨b372, 0, none⟩)) ∧ (w.heap.size ≤ b372) ∧ (b313 < b372) ∧ (Sg (gN .u32) Dx wl vx x) ∧ (Sg (gN .u32) Dy wl vy y) ∧ (Sg (gN .u32) Ex wl ux dx) ∧ (Sg (gN .u32) Ey wl uy dy) ∧ (Below w.heap.size w wl) ∧ (Bk wl b2 44 [(.bool sx), vx, ux]) ∧ (Bk wl b7 44 [(.bool sy), vy, uy]) ∧ (Bk wl b12 44 [(.bool false), (.slice none 0 0), (.slice none 0 0)]) ∧ (Sg (gN .u32) (fun _ _ => True) wl vnX xnX) ∧ (Sg (gN .u32) (fun _ _ => True) wl vdX xdX) ∧ (Bk wl b299 42 [(.bool sX), vnX]) ∧ (Sg (gN .u32) (fun _ _ => True) wl vnY xnY) ∧ (Sg (gN .u32) (fun _ _ => True) wl vdY xdY) ∧ (Bk wl b313 42 [(.bool sY), vnY]) ∧ (Sg (gN .u32) (fun b T => w.heap.size ≤ b ∧ T = 96) wl vr357 (digs ((sg sX (val xnX)) * (sg false (val xdY))).natAbs)) ∧ (Sg (gN .u32) (fun b T => w.heap.size ≤ b ∧ T = 96) wl vr362 (digs ((sg sY (val xnY)) * (sg false (val xdX))).natAbs)) ∧ (Sg (gN .u32) (fun b T => w.heap.size ≤ b ∧ T = 96) wl vr368 (digs (((sg sX (val xnX)) * (sg false (val xdY))) + ((sg sY (val xnY)) * (sg false (val xdX)))).natAbs)) ∧ (Bk wl b372 42 [(.bool (decide ((((sg sX (val xnX)) * (sg false (val xdY))) + ((sg sY (val xnY)) * (sg false (val xdX)))) < 0))), vr368])) ?_ ?_
     ·have hoff381 := Off.refl [15, 72, 73, 74, 75, 76, 77, 78, 79, 80] F349
      refine wdraw mixed fun w382 he383 => ?_
      replace hE := hE.nx he383
      replace hb301 := ((hb301.ext he314).exc hx319 (Nat.ne_of_lt lt_b299_b313)).ext (Ext.trans he322 he383)
      have hc384 := hb301.cells (o := 0) (cs := [(.bool sX), vnX]) rfl
      refine RA.rd 0 rfl (by kernel_rfl) rfl rfl rfl (by decide) (Ext.refl _) (fun u hu => r_loada (o := 0) (cs := [(.bool sX), vnX]) underlying42 ag42 ty42 (hF350 11) (fun j v hj => cell_ext hu (hc384 j v hj))) ?_
      refine ra 1 rfl (fun _ => r_move_as (v := vdY) (hF350 14)) ?_
      refine ra 2 rfl (fun _ => r_build (vl := [(1, vdY)]) (cs := [(.bool false), vdY]) underlying42 ty42 rfl (pl42 underlying42) (by obtain ⟨_, _, e0_, -, -⟩ := hdY.len; simp only [e0_]; rfl)) ?_
      replace hb315 := hb315.ext (Ext.trans he322 he383)
      have hc385 := hb315.cells (o := 0) (cs := [(.bool sY), vnY]) rfl
      refine RA.rd 4 rfl (by kernel_rfl) rfl rfl rfl (by decide) (Ext.refl _) (fun u hu => r_loada (o := 0) (cs := [(.bool sY), vnY]) underlying42 ag42 ty42 (hF350 13) (fun j v hj => cell_ext hu (hc385 j v hj))) ?_
      refine ra 5 rfl (fun _ => r_move_as (v := vdX) (hF350 12)) ?_
      refine ra 6 rfl (fun _ => r_build (vl := [(1, vdX)]) (cs := [(.bool false), vdX]) underlying42 ty42 rfl (pl42 underlying42) (by obtain ⟨_, _, e0_, -, -⟩ := hdX.len; simp only [e0_]; rfl)) ?_
      refine RA.all [3, 9] (by kernel_rfl) rfl ?_
      replace hnX := ((((hnX.tr (Sm.ext he300)).apn hx306 nb_hx306).tr (Sm.ext (Ext.trans he311 he314))).apn hx319 nb_hx319).tr (Sm.ext (Ext.trans he322 he383))
      replace hdY := hdY.tr (Sm.ext (Ext.trans he322 he383))
      refine RS.call rfl rfl rfl (by decide) (r_call (vl := [(.agg #[(.bool sX), vnX]), (.agg #[(.bool false), vdY])]) ent79 rfl) (i_mul hnX lmnX (by first | omega | simp) rfl hdY lmdY (by first | omega | simp) rfl) ?_ ?_
      ·rintro _ w386 ⟨⟨vr388, rfl, hr389, hl390⟩, he387⟩
       refine rm he387 ?_
       replace hr389 := hr389.fr hE
       replace hE := hE.nx he387
       refine RA.all [7, 9] (by kernel_rfl) rfl ?_
       have hm396 := Ext.trans he322 (Ext.trans he383 he387)
       replace hnY := ((hnY.tr (Sm.ext he314)).apn hx319 nb_hx319).tr (Sm.ext hm396)
       replace hdX := hdX.tr (Sm.ext hm396)
       refine RS.call rfl rfl rfl (by decide) (r_call (vl := [(.agg #[(.bool sY), vnY]), (.agg #[(.bool false), vdX])]) ent79 rfl) (i_mul hnY lmnY (by first | omega | simp) rfl hdX lmdX (by first | omega | simp) rfl) ?_ ?_
       ·rintro _ w391 ⟨⟨vr393, rfl, hr394, hl395⟩, he392⟩
        refine rm he392 ?_
        replace hr394 := hr394.fr hE
        replace hE := hE.nx he392
        refine RA.all [8, 9] (by kernel_rfl) rfl ?_
        replace hr389 := hr389.tr (Sm.ext he392)
        refine RS.call rfl rfl rfl (by decide) (r_call (vl := [(.agg #[(.bool (decide (((sg sX (val xnX)) * (sg false (val xdY))) < 0))), vr388]), (.agg #[(.bool (decide (((sg sY (val xnY)) * (sg false (val xdX))) < 0))), vr393])]) ent78 rfl) (i_add hr389 (digs_lm _) (by first | omega | simp) (sg_canon _) hr394 (digs_lm _) (by first | omega | simp) (sg_canon _)) ?_ ?_
        ·rintro _ w397 ⟨⟨vr399, rfl, hr400, hl401⟩, he398⟩
         refine rm he398 ?_
         replace hr400 := hr400.fr hE
         replace hE := hE.nx he398
         refine RA.all [9] (by kernel_rfl) rfl ?_
         refine RS.run rfl rfl rfl (by decide) (h_alloc (cs := [(.bool false), (.slice none 0 0)]) ty42 rfl) ?_ RS.nil
         rintro _ w402 ⟨b403, rfl, hs406, hb405, he404⟩
         refine rm he404 ?_
         have hm407 := Ext.trans he387 (Ext.trans he392 he398)
         replace hb315 := hb315.ext hm407
         have lt_b313_b403 := Nat.lt_of_lt_of_eq hb315.lt hs406.symm
         have ge_b403 := hE.ge hs406
         replace hE := hE.nx he404
         refine RA.all [10] (by kernel_rfl) rfl ?_
         refine RS.runs rfl rfl rfl (h_store (vv := (.agg #[(.bool (decide ((((sg sX (val xnX)) * (sg false (val xdY))) + ((sg sY (val xnY)) * (sg false (val xdX)))) < 0))), vr399])) (cs := [(.bool (decide ((((sg sX (val xnX)) * (sg false (val xdY))) + ((sg sY (val xnY)) * (sg false (val xdX)))) < 0))), vr399]) (o := 0) ty42 rfl rfl rfl rfl (one_cons rfl (one_cons hr400.one one_nil)) hb405 (Nat.le_of_ble_eq_true rfl)) ?_ RS.nil
         rintro w408 ⟨hn409, hx410, hz411⟩
         refine ⟨.inr (.inl (by kernel_rfl)), ?_⟩
         replace hE := hE.nb hx410 ge_b403
         have nb_hx410 := (Nb.of hb405 (nu_cons rfl (nu_cons rfl nu_nil)))
         replace hb405 : Bk w408 b403 42 [(.bool (decide ((((sg sX (val xnX)) * (sg false (val xdY))) + ((sg sY (val xnY)) * (sg false (val xdX)))) < 0))), vr399] := hn409
         refine RA.done (by kernel_rfl) ?_
         have hm412 := Ext.trans he322 (Ext.trans he383 (Ext.trans he387 (Ext.trans he392 (Ext.trans he398 he404))))
         replace hx := (((((hx.tr (Sm.ext (Ext.trans he297 he300))).apn hx306 nb_hx306).tr (Sm.ext (Ext.trans he311 he314))).apn hx319 nb_hx319).tr (Sm.ext hm412)).apn hx410 nb_hx410
         replace hy := (((hy.tr (Sm.ext (Ext.trans he311 he314))).apn hx319 nb_hx319).tr (Sm.ext hm412)).apn hx410 nb_hx410
         replace hdx := (((((hdx.tr (Sm.ext (Ext.trans he297 he300))).apn hx306 nb_hx306).tr (Sm.ext (Ext.trans he311 he314))).apn hx319 nb_hx319).tr (Sm.ext hm412)).apn hx410 nb_hx410
         replace hdy := (((hdy.tr (Sm.ext (Ext.trans he311 he314))).apn hx319 nb_hx319).tr (Sm.ext hm412)).apn hx410 nb_hx410
         replace hb4 := (((((hb4.ext (Ext.trans he297 he300)).exc hx306 (Nat.ne_of_lt (Nat.lt_trans lt_b2_b7 (Nat.lt_trans lt_b7_b12 lt_b12_b299)))).ext (Ext.trans he311 he314)).exc hx319 (Nat.ne_of_lt (Nat.lt_trans lt_b2_b7 (Nat.lt_trans lt_b7_b12 (Nat.lt_trans lt_b12_b299 lt_b299_b313))))).ext hm412).exc hx410 (Nat.ne_of_lt (Nat.lt_trans lt_b2_b7 (Nat.lt_trans lt_b7_b12 (Nat.lt_trans lt_b12_b299 (Nat.lt_trans lt_b299_b313 lt_b313_b403)))))
         replace hb9 := (((hb9.ext (Ext.trans he311 he314)).exc hx319 (Nat.ne_of_lt (Nat.lt_trans lt_b7_b12 (Nat.lt_trans lt_b12_b299 lt_b299_b313)))).ext hm412).exc hx410 (Nat.ne_of_lt (Nat.lt_trans lt_b7_b12 (Nat.lt_trans lt_b12_b299 (Nat.lt_trans lt_b299_b313 lt_b313_b403))))
         replace hb14 := (((((hb14.ext he300).exc hx306 (Nat.ne_of_lt lt_b12_b299)).ext (Ext.trans he311 he314)).exc hx319 (Nat.ne_of_lt (Nat.lt_trans lt_b12_b299 lt_b299_b313))).ext hm412).exc hx410 (Nat.ne_of_lt (Nat.lt_trans lt_b12_b299 (Nat.lt_trans lt_b299_b313 lt_b313_b403)))
         have hm413 := Ext.trans hm407 he404
         replace hnX := (hnX.tr (Sm.ext hm413)).apn hx410 nb_hx410
         have hm414 := Ext.trans he392 (Ext.trans he398 he404)
         replace hdX := (hdX.tr (Sm.ext hm414)).apn hx410 nb_hx410
         replace hb301 := (hb301.ext hm413).exc hx410 (Nat.ne_of_lt (Nat.lt_trans lt_b299_b313 lt_b313_b403))
         replace hnY := (hnY.tr (Sm.ext hm414)).apn hx410 nb_hx410
         replace hdY := (hdY.tr (Sm.ext hm413)).apn hx410 nb_hx410
         replace hb315 := (hb315.ext he404).exc hx410 (Nat.ne_of_lt lt_b313_b403)
         replace hr389 := (hr389.tr (Sm.ext (Ext.trans he398 he404))).apn hx410 nb_hx410
         replace hr394 := (hr394.tr (Sm.ext (Ext.trans he398 he404))).apn hx410 nb_hx410
         replace hr400 := (hr400.tr (Sm.ext he404)).apn hx410 nb_hx410
         refine ⟨b403, vr388, vr393, vr399, ?_, ?_, ?_, ?_, ?_, ?_, ?_, ?_, ?_, ?_, ?_, ?_, ?_, ?_, ?_, ?_, ?_, ?_, ?_, ?_, ?_, ?_⟩
         · exact (by repeat (first | exact hoff381 | refine Off.st ?_ (by decide) _))
         · exact rfl
         · exact ge_b403
         · exact lt_b313_b403
         · exact hx
         · exact hy
         · exact hdx
         · exact hdy
         · exact hE
         · exact hb4
         · exact hb9
         · exact hb14
         · exact hnX
         · exact hdX
         · exact hb301
         · exact hnY
         · exact hdY
         · exact hb315
         · exact hr389
         · exact hr394
         · exact hr400
         · exact hb405
        ·refine RS.run rfl rfl rfl (by decide) (h_alloc (cs := [(.bool false), (.slice none 0 0)]) ty42 rfl) ?_ RS.nil
         rintro _ w415 ⟨b416, rfl, hs419, hb418, he417⟩
         refine rm he417 ?_
         replace hb315 := hb315.ext (Ext.trans he387 he392)
         have lt_b313_b416 := Nat.lt_of_lt_of_eq hb315.lt hs419.symm
         have ge_b416 := hE.ge hs419
         replace hE := hE.nx he417
         refine RA.all [8] (by kernel_rfl) rfl ?_
         replace hr389 := hr389.tr (Sm.ext he417)
         replace hr394 := hr394.tr (Sm.ext he417)
         refine RS.call rfl rfl rfl (by decide) (r_call (vl := [(.agg #[(.bool (decide (((sg sX (val xnX)) * (sg false (val xdY))) < 0))), vr388]), (.agg #[(.bool (decide (((sg sY (val xnY)) * (sg false (val xdX))) < 0))), vr393])]) ent78 rfl) (i_add hr389 (digs_lm _) (by first | omega | simp) (sg_canon _) hr394 (digs_lm _) (by first | omega | simp) (sg_canon _)) ?_ RS.nil
         rintro _ w420 ⟨⟨vr422, rfl, hr423, hl424⟩, he421⟩
         refine rm he421 ?_
         replace hr423 := hr423.fr hE
         replace hE := hE.nx he421
         refine RA.all [10] (by kernel_rfl) rfl ?_
         replace hb418 := hb418.ext he421
         refine RS.runs rfl rfl rfl (h_store (vv := (.agg #[(.bool (decide ((((sg sX (val xnX)) * (sg false (val xdY))) + ((sg sY (val xnY)) * (sg false (val xdX)))) < 0))), vr422])) (cs := [(.bool (decide ((((sg sX (val xnX)) * (sg false (val xdY))) + ((sg sY (val xnY)) * (sg false (val xdX)))) < 0))), vr422]) (o := 0) ty42 rfl rfl rfl rfl (one_cons rfl (one_cons hr423.one one_nil)) hb418 (Nat.le_of_ble_eq_true rfl)) ?_ RS.nil
         rintro w425 ⟨hn426, hx427, hz428⟩
         refine ⟨.inr (.inl (by kernel_rfl)), ?_⟩
         replace hE := hE.nb hx427 ge_b416
         have nb_hx427 := (Nb.of hb418 (nu_cons rfl (nu_cons rfl nu_nil)))
         replace hb418 : Bk w425 b416 42 [(.bool (decide ((((sg sX (val xnX)) * (sg false (val xdY))) + ((sg sY (val xnY)) * (sg false (val xdX)))) < 0))), vr422] := hn426
         refine RA.done (by kernel_rfl) ?_
         have hm429 := Ext.trans he322 (Ext.trans he383 (Ext.trans he387 (Ext.trans he392 (Ext.trans he417 he421))))
         replace hx := (((((hx.tr (Sm.ext (Ext.trans he297 he300))).apn hx306 nb_hx306).tr (Sm.ext (Ext.trans he311 he314))).apn hx319 nb_hx319).tr (Sm.ext hm429)).apn hx427 nb_hx427
         replace hy := (((hy.tr (Sm.ext (Ext.trans he311 he314))).apn hx319 nb_hx319).tr (Sm.ext hm429)).apn hx427 nb_hx427
         replace hdx := (((((hdx.tr (Sm.ext (Ext.trans he297 he300))).apn hx306 nb_hx306).tr (Sm.ext (Ext.trans he311 he314))).apn hx319 nb_hx319).tr (Sm.ext hm429)).apn hx427 nb_hx427
         replace hdy := (((hdy.tr (Sm.ext (Ext.trans he311 he314))).apn hx319 nb_hx319).tr (Sm.ext hm429)).apn hx427 nb_hx427
         replace hb4 := (((((hb4.ext (Ext.trans he297 he300)).exc hx306 (Nat.ne_of_lt (Nat.lt_trans lt_b2_b7 (Nat.lt_trans lt_b7_b12 lt_b12_b299)))).ext (Ext.trans he311 he314)).exc hx319 (Nat.ne_of_lt (Nat.lt_trans lt_b2_b7 (Nat.lt_trans lt_b7_b12 (Nat.lt_trans lt_b12_b299 lt_b299_b313))))).ext hm429).exc hx427 (Nat.ne_of_lt (Nat.lt_trans lt_b2_b7 (Nat.lt_trans lt_b7_b12 (Nat.lt_trans lt_b12_b299 (Nat.lt_trans lt_b299_b313 lt_b313_b416)))))
         replace hb9 := (((hb9.ext (Ext.trans he311 he314)).exc hx319 (Nat.ne_of_lt (Nat.lt_trans lt_b7_b12 (Nat.lt_trans lt_b12_b299 lt_b299_b313)))).ext hm429).exc hx427 (Nat.ne_of_lt (Nat.lt_trans lt_b7_b12 (Nat.lt_trans lt_b12_b299 (Nat.lt_trans lt_b299_b313 lt_b313_b416))))
         replace hb14 := (((((hb14.ext he300).exc hx306 (Nat.ne_of_lt lt_b12_b299)).ext (Ext.trans he311 he314)).exc hx319 (Nat.ne_of_lt (Nat.lt_trans lt_b12_b299 lt_b299_b313))).ext hm429).exc hx427 (Nat.ne_of_lt (Nat.lt_trans lt_b12_b299 (Nat.lt_trans lt_b299_b313 lt_b313_b416)))
         have hm430 := Ext.trans he387 (Ext.trans he392 (Ext.trans he417 he421))
         replace hnX := (hnX.tr (Sm.ext hm430)).apn hx427 nb_hx427
         have hm431 := Ext.trans he392 (Ext.trans he417 he421)
         replace hdX := (hdX.tr (Sm.ext hm431)).apn hx427 nb_hx427
         replace hb301 := (hb301.ext hm430).exc hx427 (Nat.ne_of_lt (Nat.lt_trans lt_b299_b313 lt_b313_b416))
         replace hnY := (hnY.tr (Sm.ext hm431)).apn hx427 nb_hx427
         replace hdY := (hdY.tr (Sm.ext hm430)).apn hx427 nb_hx427
         replace hb315 := (hb315.ext (Ext.trans he417 he421)).exc hx427 (Nat.ne_of_lt lt_b313_b416)
         replace hr389 := (hr389.tr (Sm.ext he421)).apn hx427 nb_hx427
         replace hr394 := (hr394.tr (Sm.ext he421)).apn hx427 nb_hx427
         replace hr423 := hr423.apn hx427 nb_hx427
         refine ⟨b416, vr388, vr393, vr422, ?_, ?_, ?_, ?_, ?_, ?_, ?_, ?_, ?_, ?_, ?_, ?_, ?_, ?_, ?_, ?_, ?_, ?_, ?_, ?_, ?_, ?_⟩
         · exact (by repeat (first | exact hoff381 | refine Off.st ?_ (by decide) _))
         · exact rfl
         · exact ge_b416
         · exact lt_b313_b416
         · exact hx
         · exact hy
         · exact hdx
         · exact hdy
         · exact hE
         · exact hb4
         · exact hb9
         · exact hb14
         · exact hnX
         · exact hdX
         · exact hb301
         · exact hnY
         · exact hdY
         · exact hb315
         · exact hr389
         · exact hr394
         · exact hr423
         · exact hb418
       ·refine RS.run rfl rfl rfl (by decide) (h_alloc (cs := [(.bool false), (.slice none 0 0)]) ty42 rfl) ?_ RS.nil
        rintro _ w432 ⟨b433, rfl, hs436, hb435, he434⟩
        refine rm he434 ?_
        replace hb315 := hb315.ext he387
        have lt_b313_b433 := Nat.lt_of_lt_of_eq hb315.lt hs436.symm
        have ge_b433 := hE.ge hs436
        replace hE := hE.nx he434
        refine RA.all [7] (by kernel_rfl) rfl ?_
        replace hnY := hnY.tr (Sm.ext he434)
        replace hdX := hdX.tr (Sm.ext he434)
        refine RS.call rfl rfl rfl (by decide) (r_call (vl := [(.agg #[(.bool sY), vnY]), (.agg #[(.bool false), vdX])]) ent79 rfl) (i_mul hnY lmnY (by first | omega | simp) rfl hdX lmdX (by first | omega | simp) rfl) ?_ RS.nil
        rintro _ w437 ⟨⟨vr439, rfl, hr440, hl441⟩, he438⟩
        refine rm he438 ?_
        replace hr440 := hr440.fr hE
        replace hE := hE.nx he438
        refine RA.all [8] (by kernel_rfl) rfl ?_
        replace hr389 := hr389.tr (Sm.ext (Ext.trans he434 he438))
        refine RS.call rfl rfl rfl (by decide) (r_call (vl := [(.agg #[(.bool (decide (((sg sX (val xnX)) * (sg false (val xdY))) < 0))), vr388]), (.agg #[(.bool (decide (((sg sY (val xnY)) * (sg false (val xdX))) < 0))), vr439])]) ent78 rfl) (i_add hr389 (digs_lm _) (by first | omega | simp) (sg_canon _) hr440 (digs_lm _) (by first | omega | simp) (sg_canon _)) ?_ RS.nil
        rintro _ w442 ⟨⟨vr444, rfl, hr445, hl446⟩, he443⟩
        refine rm he443 ?_
        replace hr445 := hr445.fr hE
        replace hE := hE.nx he443
        refine RA.all [10] (by kernel_rfl) rfl ?_
        replace hb435 := hb435.ext (Ext.trans he438 he443)
        refine RS.runs rfl rfl rfl (h_store (vv := (.agg #[(.bool (decide ((((sg sX (val xnX)) * (sg false (val xdY))) + ((sg sY (val xnY)) * (sg false (val xdX)))) < 0))), vr444])) (cs := [(.bool (decide ((((sg sX (val xnX)) * (sg false (val xdY))) + ((sg sY (val xnY)) * (sg false (val xdX)))) < 0))), vr444]) (o := 0) ty42 rfl rfl rfl rfl (one_cons rfl (one_cons hr445.one one_nil)) hb435 (Nat.le_of_ble_eq_true rfl)) ?_ RS.nil
        rintro w447 ⟨hn448, hx449, hz450⟩
        refine ⟨.inr (.inl (by kernel_rfl)), ?_⟩
        replace hE := hE.nb hx449 ge_b433
        have nb_hx449 := (Nb.of hb435 (nu_cons rfl (nu_cons rfl nu_nil)))
        replace hb435 : Bk w447 b433 42 [(.bool (decide ((((sg sX (val xnX)) * (sg false (val xdY))) + ((sg sY (val xnY)) * (sg false (val xdX)))) < 0))), vr444] := hn448
        refine RA.done (by kernel_rfl) ?_
        have hm451 := Ext.trans he322 (Ext.trans he383 (Ext.trans he387 (Ext.trans he434 (Ext.trans he438 he443))))
        replace hx := (((((hx.tr (Sm.ext (Ext.trans he297 he300))).apn hx306 nb_hx306).tr (Sm.ext (Ext.trans he311 he314))).apn hx319 nb_hx319).tr (Sm.ext hm451)).apn hx449 nb_hx449
        replace hy := (((hy.tr (Sm.ext (Ext.trans he311 he314))).apn hx319 nb_hx319).tr (Sm.ext hm451)).apn hx449 nb_hx449
        replace hdx := (((((hdx.tr (Sm.ext (Ext.trans he297 he300))).apn hx306 nb_hx306).tr (Sm.ext (Ext.trans he311 he314))).apn hx319 nb_hx319).tr (Sm.ext hm451)).apn hx449 nb_hx449
        replace hdy := (((hdy.tr (Sm.ext (Ext.trans he311 he314))).apn hx319 nb_hx319).tr (Sm.ext hm451)).apn hx449 nb_hx449
        replace hb4 := (((((hb4.ext (Ext.trans he297 he300)).exc hx306 (Nat.ne_of_lt (Nat.lt_trans lt_b2_b7 (Nat.lt_trans lt_b7_b12 lt_b12_b299)))).ext (Ext.trans he311 he314)).exc hx319 (Nat.ne_of_lt (Nat.lt_trans lt_b2_b7 (Nat.lt_trans lt_b7_b12 (Nat.lt_trans lt_b12_b299 lt_b299_b313))))).ext hm451).exc hx449 (Nat.ne_of_lt (Nat.lt_trans lt_b2_b7 (Nat.lt_trans lt_b7_b12 (Nat.lt_trans lt_b12_b299 (Nat.lt_trans lt_b299_b313 lt_b313_b433)))))
        replace hb9 := (((hb9.ext (Ext.trans he311 he314)).exc hx319 (Nat.ne_of_lt (Nat.lt_trans lt_b7_b12 (Nat.lt_trans lt_b12_b299 lt_b299_b313)))).ext hm451).exc hx449 (Nat.ne_of_lt (Nat.lt_trans lt_b7_b12 (Nat.lt_trans lt_b12_b299 (Nat.lt_trans lt_b299_b313 lt_b313_b433))))
        replace hb14 := (((((hb14.ext he300).exc hx306 (Nat.ne_of_lt lt_b12_b299)).ext (Ext.trans he311 he314)).exc hx319 (Nat.ne_of_lt (Nat.lt_trans lt_b12_b299 lt_b299_b313))).ext hm451).exc hx449 (Nat.ne_of_lt (Nat.lt_trans lt_b12_b299 (Nat.lt_trans lt_b299_b313 lt_b313_b433)))
        have hm452 := Ext.trans he387 (Ext.trans he434 (Ext.trans he438 he443))
        replace hnX := (hnX.tr (Sm.ext hm452)).apn hx449 nb_hx449
        replace hdX := (hdX.tr (Sm.ext (Ext.trans he438 he443))).apn hx449 nb_hx449
        replace hb301 := (hb301.ext hm452).exc hx449 (Nat.ne_of_lt (Nat.lt_trans lt_b299_b313 lt_b313_b433))
        replace hnY := (hnY.tr (Sm.ext (Ext.trans he438 he443))).apn hx449 nb_hx449
        replace hdY := (hdY.tr (Sm.ext hm452)).apn hx449 nb_hx449
        have hm453 := Ext.trans he434 (Ext.trans he438 he443)
        replace hb315 := (hb315.ext hm453).exc hx449 (Nat.ne_of_lt lt_b313_b433)
        replace hr389 := (hr389.tr (Sm.ext he443)).apn hx449 nb_hx449
        replace hr440 := (hr440.tr (Sm.ext he443)).apn hx449 nb_hx449
        replace hr445 := hr445.apn hx449 nb_hx449
        refine ⟨b433, vr388, vr439, vr444, ?_, ?_, ?_, ?_, ?_, ?_, ?_, ?_, ?_, ?_, ?_, ?_, ?_, ?_, ?_, ?_, ?_, ?_, ?_, ?_, ?_, ?_⟩
        · exact (by repeat (first | exact hoff381 | refine Off.st ?_ (by decide) _))
        · exact rfl
        · exact ge_b433
        · exact lt_b313_b433
        · exact hx
        · exact hy
        · exact hdx
        · exact hdy
        · exact hE
        · exact hb4
        · exact hb9
        · exact hb14
        · exact hnX
        · exact hdX
        · exact hb301
        · exact hnY
        · exact hdY
        · exact hb315
        · exact hr389
        · exact hr440
        · exact hr445
        · exact hb435
      ·refine RS.run rfl rfl rfl (by decide) (h_alloc (cs := [(.bool false), (.slice none 0 0)]) ty42 rfl) ?_ RS.nil
       rintro _ w454 ⟨b455, rfl, hs458, hb457, he456⟩
       refine rm he456 ?_
       have lt_b313_b455 := Nat.lt_of_lt_of_eq hb315.lt hs458.symm
       have ge_b455 := hE.ge hs458
       replace hE := hE.nx he456
       refine RA.all [3] (by kernel_rfl) rfl ?_
       replace hnX := hnX.tr (Sm.ext he456)
       replace hdY := hdY.tr (Sm.ext he456)
       refine RS.call rfl rfl rfl (by decide) (r_call (vl := [(.agg #[(.bool sX), vnX]), (.agg #[(.bool false), vdY])]) ent79 rfl) (i_mul hnX lmnX (by first | omega | simp) rfl hdY lmdY (by first | omega | simp) rfl) ?_ RS.nil
       rintro _ w459 ⟨⟨vr461, rfl, hr462, hl463⟩, he460⟩
       refine rm he460 ?_
       replace hr462 := hr462.fr hE
       replace hE := hE.nx he460
       refine RA.all [7] (by kernel_rfl) rfl ?_
       have hm469 := Ext.trans he322 (Ext.trans he383 (Ext.trans he456 he460))
       replace hnY := ((hnY.tr (Sm.ext he314)).apn hx319 nb_hx319).tr (Sm.ext hm469)
       replace hdX := hdX.tr (Sm.ext hm469)
       refine RS.call rfl rfl rfl (by decide) (r_call (vl := [(.agg #[(.bool sY), vnY]), (.agg #[(.bool false), vdX])]) ent79 rfl) (i_mul hnY lmnY (by first | omega | simp) rfl hdX lmdX (by first | omega | simp) rfl) ?_ RS.nil
       rintro _ w464 ⟨⟨vr466, rfl, hr467, hl468⟩, he465⟩
       refine rm he465 ?_
       replace hr467 := hr467.fr hE
       replace hE := hE.nx he465
       refine RA.all [8] (by kernel_rfl) rfl ?_
       replace hr462 := hr462.tr (Sm.ext he465)
       refine RS.call rfl rfl rfl (by decide) (r_call (vl := [(.agg #[(.bool (decide (((sg sX (val xnX)) * (sg false (val xdY))) < 0))), vr461]), (.agg #[(.bool (decide (((sg sY (val xnY)) * (sg false (val xdX))) < 0))), vr466])]) ent78 rfl) (i_add hr462 (digs_lm _) (by first | omega | simp) (sg_canon _) hr467 (digs_lm _) (by first | omega | simp) (sg_canon _)) ?_ RS.nil
       rintro _ w470 ⟨⟨vr472, rfl, hr473, hl474⟩, he471⟩
       refine rm he471 ?_
       replace hr473 := hr473.fr hE
       replace hE := hE.nx he471
       refine RA.all [10] (by kernel_rfl) rfl ?_
       have hm479 := Ext.trans he460 (Ext.trans he465 he471)
       replace hb457 := hb457.ext hm479
       refine RS.runs rfl rfl rfl (h_store (vv := (.agg #[(.bool (decide ((((sg sX (val xnX)) * (sg false (val xdY))) + ((sg sY (val xnY)) * (sg false (val xdX)))) < 0))), vr472])) (cs := [(.bool (decide ((((sg sX (val xnX)) * (sg false (val xdY))) + ((sg sY (val xnY)) * (sg false (val xdX)))) < 0))), vr472]) (o := 0) ty42 rfl rfl rfl rfl (one_cons rfl (one_cons hr473.one one_nil)) hb457 (Nat.le_of_ble_eq_true rfl)) ?_ RS.nil
       rintro w475 ⟨hn476, hx477, hz478⟩
       refine ⟨.inr (.inl (by kernel_rfl)), ?_⟩
       replace hE := hE.nb hx477 ge_b455
       have nb_hx477 := (Nb.of hb457 (nu_cons rfl (nu_cons rfl nu_nil)))
       replace hb457 : Bk w475 b455 42 [(.bool (decide ((((sg sX (val xnX)) * (sg false (val xdY))) + ((sg sY (val xnY)) * (sg false (val xdX)))) < 0))), vr472] := hn476
       refine RA.done (by kernel_rfl) ?_
       have hm480 := Ext.trans he322 (Ext.trans he383 (Ext.trans he456 (Ext.trans he460 (Ext.trans he465 he471))))
       replace hx := (((((hx.tr (Sm.ext (Ext.trans he297 he300))).apn hx306 nb_hx306).tr (Sm.ext (Ext.trans he311 he314))).apn hx319 nb_hx319).tr (Sm.ext hm480)).apn hx477 nb_hx477
       replace hy := (((hy.tr (Sm.ext (Ext.trans he311 he314))).apn hx319 nb_hx319).tr (Sm.ext hm480)).apn hx477 nb_hx477
       replace hdx := (((((hdx.tr (Sm.ext (Ext.trans he297 he300))).apn hx306 nb_hx306).tr (Sm.ext (Ext.trans he311 he314))).apn hx319 nb_hx319).tr (Sm.ext hm480)).apn hx477 nb_hx477
       replace hdy := (((hdy.tr (Sm.ext (Ext.trans he311 he314))).apn hx319 nb_hx319).tr (Sm.ext hm480)).apn hx477 nb_hx477
       replace hb4 := (((((hb4.ext (Ext.trans he297 he300)).exc hx306 (Nat.ne_of_lt (Nat.lt_trans lt_b2_b7 (Nat.lt_trans lt_b7_b12 lt_b12_b299)))).ext (Ext.trans he311 he314)).exc hx319 (Nat.ne_of_lt (Nat.lt_trans lt_b2_b7 (Nat.lt_trans lt_b7_b12 (Nat.lt_trans lt_b12_b299 lt_b299_b313))))).ext hm480).exc hx477 (Nat.ne_of_lt (Nat.lt_trans lt_b2_b7 (Nat.lt_trans lt_b7_b12 (Nat.lt_trans lt_b12_b299 (Nat.lt_trans lt_b299_b313 lt_b313_b455)))))
       replace hb9 := (((hb9.ext (Ext.trans he311 he314)).exc hx319 (Nat.ne_of_lt (Nat.lt_trans lt_b7_b12 (Nat.lt_trans lt_b12_b299 lt_b299_b313)))).ext hm480).exc hx477 (Nat.ne_of_lt (Nat.lt_trans lt_b7_b12 (Nat.lt_trans lt_b12_b299 (Nat.lt_trans lt_b299_b313 lt_b313_b455))))
       replace hb14 := (((((hb14.ext he300).exc hx306 (Nat.ne_of_lt lt_b12_b299)).ext (Ext.trans he311 he314)).exc hx319 (Nat.ne_of_lt (Nat.lt_trans lt_b12_b299 lt_b299_b313))).ext hm480).exc hx477 (Nat.ne_of_lt (Nat.lt_trans lt_b12_b299 (Nat.lt_trans lt_b299_b313 lt_b313_b455)))
       replace hnX := (hnX.tr (Sm.ext hm479)).apn hx477 nb_hx477
       replace hdX := (hdX.tr (Sm.ext (Ext.trans he465 he471))).apn hx477 nb_hx477
       have hm481 := Ext.trans he456 (Ext.trans he460 (Ext.trans he465 he471))
       replace hb301 := (hb301.ext hm481).exc hx477 (Nat.ne_of_lt (Nat.lt_trans lt_b299_b313 lt_b313_b455))
       replace hnY := (hnY.tr (Sm.ext (Ext.trans he465 he471))).apn hx477 nb_hx477
       replace hdY := (hdY.tr (Sm.ext hm479)).apn hx477 nb_hx477
       replace hb315 := (hb315.ext hm481).exc hx477 (Nat.ne_of_lt lt_b313_b455)
       replace hr462 := (hr462.tr (Sm.ext he471)).apn hx477 nb_hx477
       replace hr467 := (hr467.tr (Sm.ext he471)).apn hx477 nb_hx477
       replace hr473 := hr473.apn hx477 nb_hx477
       refine ⟨b455, vr461, vr466, vr472, ?_, ?_, ?_, ?_, ?_, ?_, ?_, ?_, ?_, ?_, ?_, ?_, ?_, ?_, ?_, ?_, ?_, ?_, ?_, ?_, ?_, ?_⟩
       · exact (by repeat (first | exact hoff381 | refine Off.st ?_ (by decide) _))
       · exact rfl
       · exact ge_b455
       · exact lt_b313_b455
       · exact hx
       · exact hy
       · exact hdx
       · exact hdy
       · exact hE
       · exact hb4
       · exact hb9
       · exact hb14
       · exact hnX
       · exact hdX
       · exact hb301
       · exact hnY
       · exact hdY
       · exact hb315
       · exact hr462
       · exact hr467
       · exact hr473
       · exact hb457
     ·clear hx hy hdx hdy hE hb4 hb9 hb14 hnX hdX hb301 hnY hdY hb315
      rintro f482 w483 ⟨b372, vr357, vr362, vr368, hoff484, hs485, ge_b372, lt_b313_b372, hx, hy, hdx, hdy, hE, hb4, hb9, hb14, hnX, hdX, hb301, hnY, hdY, hb315, hr358, hr363, hr369, hb374⟩
      refine wseq ?_
      have hi1 := il_add (sg sX (val xnX) * sg false (val xdY)) (sg sY (val xnY) * sg false (val xdX))
      have hi2 := il_mul (sg sX (val xnX)) (sg false (val xdY))
      have hi3 := il_mul (sg sY (val xnY)) (sg false (val xdX))
      have hi4 := il_le (b := sX) lmnX rfl
      have hi5 := il_le (b := sY) lmnY rfl
      have hi6 := il_le (b := false) lmdX rfl
      have hi7 := il_le (b := false) lmdY rfl
      have hnz : val (digs (val xdX * val xdY)) ≠ 0 := by rw [val_digs]; exact Nat.mul_ne_zero nzX nzY
      refine wdraw mixed fun w486 he487 => ?_
      replace hE := hE.nx he487
      replace hb374 := hb374.ext he487
      have hc488 := hb374.cells (o := 0) (cs := [(.bool (decide ((((sg sX (val xnX)) * (sg false (val xdY))) + ((sg sY (val xnY)) * (sg false (val xdX)))) < 0))), vr368]) rfl
      refine RA.rd 0 rfl (by kernel_rfl) rfl rfl rfl (by decide) (Ext.refl _) (fun u hu => r_loada (o := 0) (cs := [(.bool (decide ((((sg sX (val xnX)) * (sg false (val xdY))) + ((sg sY (val xnY)) * (sg false (val xdX)))) < 0))), vr368]) underlying42 ag42 ty42 hs485 (fun j v hj => cell_ext hu (hc488 j v hj))) ?_
      refine ra 1 rfl (fun _ => r_move_as (v := vdX) ((hoff484 12 rfl).trans (hF350 12))) ?_
      refine ra 2 rfl (fun _ => r_move_as (v := vdY) ((hoff484 14 rfl).trans (hF350 14))) ?_
      refine RA.all [3] (by kernel_rfl) rfl ?_
      replace hdX := hdX.tr (Sm.ext he487)
      replace hdY := hdY.tr (Sm.ext he487)
      refine RS.call rfl rfl rfl (by decide) (r_call (vl := [vdX, vdY]) ent80 rfl) (n_mul hdX lmdX (by first | omega | simp) hdY lmdY (by first | omega | simp)) ?_ RS.nil
      rintro vr491 w489 ⟨hr492, he490⟩
      refine rm he490 ?_
      replace hr492 := hr492.fr hE
      replace hE := hE.nx he490
      have hlv493 := dl_val (x := xdX) lmdX
      have hlv494 := dl_val (x := xdY) lmdY
      have hlv495 := dl_mul (val xdX) (val xdY)
      refine RA.all [4] (by kernel_rfl) rfl ?_
      replace hr369 := hr369.tr (Sm.ext (Ext.trans he487 he490))
      refine RS.call rfl rfl rfl (by decide) (r_call (vl := [(.agg #[(.bool (decide ((((sg sX (val xnX)) * (sg false (val xdY))) + ((sg sY (val xnY)) * (sg false (val xdX)))) < 0))), vr368]), vr491]) ent71 rfl) (q_lowest hr369 (digs_lm _) (by first | omega | simp) (sg_canon _) hr492 (digs_lm _) (by first | omega | simp) (by first | assumption | exact hnz)) ?_ RS.nil
      rintro vv504 w496 ⟨⟨vn498, vd500, hv505, hn499, hd501, hl502, hl503⟩, he497⟩
      refine rm he497 ?_
      simp only [val_digs] at hv505
      subst hv505
      simp only [val_digs] at hn499 hd501 hl502 hl503
      have hlv506 := den_one (Rat.divInt (((sg sX (val xnX)) * (sg false (val xdY))) + ((sg sY (val xnY)) * (sg false (val xdX)))) ((((val xdX) * (val xdY)) : Nat) : Int))
      replace hn499 := hn499.fr hE
      replace hd501 := hd501.fr hE
      replace hE := hE.nx he497
      refine RA.all [5] (by kernel_rfl) rfl ?_
      have hm511 := Ext.trans he487 (Ext.trans he490 he497)
      replace hb14 := hb14.ext hm511
      refine RS.runs rfl rfl rfl (h_store (vv := (.agg #[(.bool (decide ((Rat.divInt (((sg sX (val xnX)) * (sg false (val xdY))) + ((sg sY (val xnY)) * (sg false (val xdX)))) ((((val xdX) * (val xdY)) : Nat) : Int)).num < 0))), vn498, vd500])) (cs := [(.bool (decide ((Rat.divInt (((sg sX (val xnX)) * (sg false (val xdY))) + ((sg sY (val xnY)) * (sg false (val xdX)))) ((((val xdX) * (val xdY)) : Nat) : Int)).num < 0))), vn498, vd500]) (o := 0) ty44 ((hoff484 4 rfl).trans (hF350 4)) rfl rfl rfl (one_cons rfl (one_cons hn499.one (one_cons hd501.one one_nil))) hb14 (Nat.le_of_ble_eq_true rfl)) ?_ RS.nil
      rintro w507 ⟨hn508, hx509, hz510⟩
      refine ⟨.inr (.inl (by kernel_rfl)), ?_⟩
      replace hE := hE.nb hx509 ge_b12
      have nb_hx509 := (Nb.of hb14 (nu_cons rfl (nu_cons rfl (nu_cons rfl nu_nil))))
      replace hb14 : Bk w507 b12 44 [(.bool (decide ((Rat.divInt (((sg sX (val xnX)) * (sg false (val xdY))) + ((sg sY (val xnY)) * (sg false (val xdX)))) ((((val xdX) * (val xdY)) : Nat) : Int)).num < 0))), vn498, vd500] := hn508
      refine RA.done (by kernel_rfl) ?_
      refine wret ?_
      refine ⟨[(.agg #[(.bool (decide ((Rat.divInt (((sg sX (val xnX)) * (sg false (val xdY))) + ((sg sY (val xnY)) * (sg false (val xdX)))) ((((val xdX) * (val xdY)) : Nat) : Int)).num < 0))), vn498, vd500])], ⟨⟨_, _, [(.bool (decide ((Rat.divInt (((sg sX (val xnX)) * (sg false (val xdY))) + ((sg sY (val xnY)) * (sg false (val xdX)))) ((((val xdX) * (val xdY)) : Nat) : Int)).num < 0))), vn498, vd500], ((hoff484 4 rfl).trans (hF350 4)), ⟨_, underlying44⟩, hb14.cells rfl, .inl ⟨ag44, ⟨_, _, ty44⟩, rfl⟩⟩, trivial⟩, ?_⟩
      have hlr := radd_len qx qy
      have hq : (Rat.divInt (((sg sX (val xnX)) * (sg false (val xdY))) + ((sg sY (val xnY)) * (sg false (val xdX)))) ((((val xdX) * (val xdY)) : Nat) : Int)) = (qx + qy) := by first | (rw [hx0, Rat.zero_add]; done) | (rw [hy0, Rat.add_zero]; done) | exact radd_small hsx1.2.2.1 hsy1.2.2.1 hsx1.2.2.2.2 hsy1.2.2.2.2 | exact radd_same (by omega) eqX (by rw [hxd]; exact eqY) | (rw [Int.natCast_mul]; exact radd_small (by rw [sg_f]; omega) (by rw [sg_f]; omega) eqX eqY)
      replace hn499 := hn499.apn hx509 nb_hx509
      replace hd501 := hd501.apn hx509 nb_hx509
      exact ⟨⟨_, _, agg3 (congrArg (fun z : Rat => decide (z.num < 0)) hq), by rw [← hq]; exact hn499, by rw [← hq]; exact hd501, by omega, by omega⟩, hE⟩
set_option maxHeartbeats 4000000 in
theorem q_mul {w : World} {sx : Bool} {Dx Ex : Nat → TypeId → Prop} {vx ux : Value} {x dx : List Nat} (hx : Sg (gN .u32) Dx w vx x) (lmx : Lm x) (lnx : x.length ≤ 17179869184) (hdx : Sg (gN .u32) Ex w ux dx) (lmdx : Lm dx) (lndx : dx.length ≤ 17179869184) {qx : Rat} (ex : ratOf sx (val x) (val dx) = qx) {sy : Bool} {Dy Ey : Nat → TypeId → Prop} {vy uy : Value} {y dy : List Nat} (hy : Sg (gN .u32) Dy w vy y) (lmy : Lm y) (lny : y.length ≤ 17179869184) (hdy : Sg (gN .u32) Ey w uy dy) (lmdy : Lm dy) (lndy : dy.length ≤ 17179869184) {qy : Rat} (ey : ratOf sy (val y) (val dy) = qy) :
    Calls Tryz.prog 54 #[(.agg #[(.bool sx), vx, ux]), (.agg #[(.bool sy), vy, uy])] w fun e w' => ∃ v, e = .returned v ∧ (∃ vn vd, v = .agg #[.bool (decide ((qx * qy).num < 0)), vn, vd] ∧ Sg (gN .u32) (fun b T => w.heap.size ≤ b ∧ T = 96) w' vn (digs (qx * qy).num.natAbs) ∧ Sg (gN .u32) (fun b T => w.heap.size ≤ b ∧ T = 96) w' vd (digs (qx * qy).den) ∧ (digs (qx * qy).num.natAbs).length ≤ x.length + y.length ∧ (digs (qx * qy).den).length ≤ dx.length + dy.length + 2) ∧ Ext w w' := by
 have hE : Below w.heap.size w w := Below.refl _ _
 have hlqx := rl_of lmx lmdx ex
 have hdqx := den_one qx
 have hlqy := rl_of lmy lmdy ey
 have hdqy := den_one qy
 refine calls_of (n := 55) (rs := [.cell 4 44]) func54 rfl rfl rfl (Nat.le_of_ble_eq_true rfl) ?_
 refine wset fun F0 hF0 => ?_
 refine wsr ?_
 refine rU (h_box (vv := (.agg #[(.bool sx), vx, ux])) (cs := [(.bool sx), vx, ux]) (hF0 0) rfl) ?_
 rintro _ w1 ⟨b2, rfl, hs5, hb4, he3⟩
 have ge_b2 := hE.ge hs5
 replace hE := hE.nx he3
 refine rU (h_box (vv := (.agg #[(.bool sy), vy, uy])) (cs := [(.bool sy), vy, uy]) (hF0 1) rfl) ?_
 rintro _ w6 ⟨b7, rfl, hs10, hb9, he8⟩
 have lt_b2_b7 := Nat.lt_of_lt_of_eq hb4.lt hs10.symm
 have ge_b7 := hE.ge hs10
 replace hE := hE.nx he8
 refine rU (h_alloc (cs := [(.bool false), (.slice none 0 0), (.slice none 0 0)]) ty44 rfl) ?_
 rintro _ w11 ⟨b12, rfl, hs15, hb14, he13⟩
 have lt_b7_b12 := Nat.lt_of_lt_of_eq hb9.lt hs15.symm
 have ge_b12 := hE.ge hs15
 replace hE := hE.nx he13
 refine RL.nil (wsr ?_)
 replace hb4 := hb4.ext (Ext.trans he8 he13)
 have hc16 := hb4.cells (o := 0) (cs := [(.bool sx), vx, ux]) rfl
 refine rV (r_loada (o := 0) (cs := [(.bool sx), vx, ux]) underlying44 ag44 ty44 rfl hc16) ?_
 have hm19 := Ext.trans he3 (Ext.trans he8 he13)
 replace hx := hx.tr (Sm.ext hm19)
 replace hdx := hdx.tr (Sm.ext hm19)
 refine RL.call rfl rfl (by decide) (r_call (vl := [(.agg #[(.bool sx), vx, ux])]) ent69 rfl) (q_small hx (by assumption) (by first | omega | simp) hdx (by assumption) (by first | omega | simp) (show ratOf sx (val x) (val dx) = qx from ex)) ?_
 rintro _ w17 ⟨⟨nX, dX, okX, rfl, hsX⟩, he18⟩
 replace hE := hE.nx he18
 refine mV (v := (.tuple #[(.int .i64 (nX)), (.int .i64 (dX)), (.bool okX)])) rfl (rV (r_extract (v := (.int .i64 (nX))) rfl rfl) (rV (r_extract (v := (.int .i64 (dX))) rfl rfl) (rV (r_extract (v := (.bool okX)) rfl rfl) (aS (v := (.int .i64 (nX))) rfl (aS (v := (.int .i64 (dX))) rfl (aS (v := (.bool okX)) rfl (RL.nil (wsr ?_))))))))
 replace hb9 := hb9.ext (Ext.trans he13 he18)
 have hc20 := hb9.cells (o := 0) (cs := [(.bool sy), vy, uy]) rfl
 refine rV (r_loada (o := 0) (cs := [(.bool sy), vy, uy]) underlying44 ag44 ty44 rfl hc20) ?_
 have hm23 := Ext.trans hm19 he18
 replace hy := hy.tr (Sm.ext hm23)
 replace hdy := hdy.tr (Sm.ext hm23)
 refine RL.call rfl rfl (by decide) (r_call (vl := [(.agg #[(.bool sy), vy, uy])]) ent69 rfl) (q_small hy (by assumption) (by first | omega | simp) hdy (by assumption) (by first | omega | simp) (show ratOf sy (val y) (val dy) = qy from ey)) ?_
 rintro _ w21 ⟨⟨nY, dY, okY, rfl, hsY⟩, he22⟩
 replace hE := hE.nx he22
 refine mV (v := (.tuple #[(.int .i64 (nY)), (.int .i64 (dY)), (.bool okY)])) rfl (rV (r_extract (v := (.int .i64 (nY))) rfl rfl) (rV (r_extract (v := (.int .i64 (dY))) rfl rfl) (rV (r_extract (v := (.bool okY)) rfl rfl) (aS (v := (.int .i64 (nY))) rfl (aS (v := (.int .i64 (dY))) rfl (aS (v := (.bool okY)) rfl (RL.nil (wseq (wsr (mV (v := (.bool okX)) rfl (mV (v := (.bool okX)) rfl ?_)))))))))))
 rcases Bool.eq_false_or_eq_true (okX) with hb24 | hb24
 ·have hb24p := hb24
  have hsx1 := hsX hb24
  refine RL.gval rfl rfl (bool_eq hb24) rfl (by decide) (r_move_as (v := (.bool okY)) rfl) ?_
  refine rV (r_pick_t (v := (.bool okY)) (bool_eq hb24) rfl) (RL.nil ?_)
  refine wcond (b := okY) rfl (fun hb25 => ?_) (fun hb25 => ?_)
  ·have hb25p := hb25
   have hsy1 := hsY hb25
   refine wseq ?_
   have hm1 := mul31 (a := nX) (b := dY) ⟨by omega, by omega⟩ ⟨by omega, by omega⟩
   have hm2 := mul31 (a := nY) (b := dX) ⟨by omega, by omega⟩ ⟨by omega, by omega⟩
   have hm3 := mul31 (a := dX) (b := dY) ⟨by omega, by omega⟩ ⟨by omega, by omega⟩
   have hm4 := mul31 (a := nX) (b := nY) ⟨by omega, by omega⟩ ⟨by omega, by omega⟩
   have hmp := Int.mul_pos hsx1.2.2.1 hsy1.2.2.1
   refine wregion (mV (v := (.int .i64 (nX))) rfl (mV (v := (.int .i64 (nY))) rfl (rV (r_mul (k := .i64) (a := nX) (b := nY) (c := nX * nY) rfl rfl (wi64 (by omega))) (mV (v := (.int .i64 (dX))) rfl (mV (v := (.int .i64 (dY))) rfl (rV (r_mul (k := .i64) (a := dX) (b := dY) (c := dX * dY) rfl rfl (wi64 (by omega))) ?_))))))
   refine cL ent70 (q_quot (by omega) (by omega)) rfl ?_
   rintro _ w26 ⟨⟨vn28, vd30, rfl, hn29, hd31, hl32, hl33⟩, he27⟩
   have hlv34 := den_one (Rat.divInt (nX * nY) (dX * dY))
   replace hn29 := hn29.fr hE
   replace hd31 := hd31.fr hE
   replace hE := hE.nx he27
   have hm39 := Ext.trans he18 (Ext.trans he22 he27)
   replace hb14 := hb14.ext hm39
   refine RL.runs rfl rfl (h_store (vv := (.agg #[(.bool (decide ((Rat.divInt (nX * nY) (dX * dY)).num < 0))), vn28, vd30])) (cs := [(.bool (decide ((Rat.divInt (nX * nY) (dX * dY)).num < 0))), vn28, vd30]) (o := 0) ty44 rfl rfl rfl rfl (one_cons rfl (one_cons hn29.one (one_cons hd31.one one_nil))) hb14 (Nat.le_of_ble_eq_true rfl)) ?_
   rintro w35 ⟨hn36, hx37, hz38⟩
   replace hE := hE.nb hx37 ge_b12
   have nb_hx37 := (Nb.of hb14 (nu_cons rfl (nu_cons rfl (nu_cons rfl nu_nil))))
   replace hb14 : Bk w35 b12 44 [(.bool (decide ((Rat.divInt (nX * nY) (dX * dY)).num < 0))), vn28, vd30] := hn36
   refine RL.nil ?_
   refine wret ?_
   refine ⟨[(.agg #[(.bool (decide ((Rat.divInt (nX * nY) (dX * dY)).num < 0))), vn28, vd30])], ⟨⟨_, _, [(.bool (decide ((Rat.divInt (nX * nY) (dX * dY)).num < 0))), vn28, vd30], rfl, ⟨_, underlying44⟩, hb14.cells rfl, .inl ⟨ag44, ⟨_, _, ty44⟩, rfl⟩⟩, trivial⟩, ?_⟩
   have hlr := rmul_len qx qy
   have hq : (Rat.divInt (nX * nY) (dX * dY)) = (qx * qy) := by first | exact rmul_small hsx1.2.2.2.2 hsy1.2.2.2.2 | (rw [Int.natCast_mul]; exact rmul_small eqX eqY)
   replace hn29 := hn29.apn hx37 nb_hx37
   replace hd31 := hd31.apn hx37 nb_hx37
   exact ⟨⟨_, _, agg3 (congrArg (fun z : Rat => decide (z.num < 0)) hq), by rw [← hq]; exact hn29, by rw [← hq]; exact hd31, by omega, by omega⟩, hE⟩
  ·have hb25p := hb25
   refine wskip ?_
   refine wsr ?_
   replace hb4 := hb4.ext (Ext.trans he18 he22)
   have hc40 := hb4.cells (o := 0) (cs := [(.bool sx), vx, ux]) rfl
   refine rV (r_loada (o := 0) (cs := [(.bool sx), vx, ux]) underlying44 ag44 ty44 rfl hc40) ?_
   replace hx := hx.tr (Sm.ext (Ext.trans he18 he22))
   replace hdx := hdx.tr (Sm.ext (Ext.trans he18 he22))
   refine RL.call rfl rfl (by decide) (r_call (vl := [(.agg #[(.bool sx), vx, ux])]) ent67 rfl) (q_parts hx (by assumption) (by first | omega | simp) hdx (by assumption) (by first | omega | simp) (show ratOf sx (val x) (val dx) = qx from ex)) ?_
   rintro _ w41 ⟨⟨sX, vnX, vdX, xnX, xdX, rfl, hnX, lmnX, lnnX, hdX, lmdX, lndX, nzX, eqX⟩, he42⟩
   replace hE := hE.nx he42
   refine mV (v := (.tuple #[(.agg #[(.bool sX), vnX]), vdX])) rfl (rV (r_extract (v := (.agg #[(.bool sX), vnX])) rfl rfl) (rV (r_extract (v := vdX) rfl rfl) ?_))
   refine rU (h_alloc (cs := [(.bool false), (.slice none 0 0)]) ty42 rfl) ?_
   rintro _ w43 ⟨b44, rfl, hs47, hb46, he45⟩
   have hm48 := Ext.trans he18 (Ext.trans he22 he42)
   replace hb14 := hb14.ext hm48
   have lt_b12_b44 := Nat.lt_of_lt_of_eq hb14.lt hs47.symm
   have ge_b44 := hE.ge hs47
   replace hE := hE.nx he45
   refine RL.runs rfl rfl (h_store (vv := (.agg #[(.bool sX), vnX])) (cs := [(.bool sX), vnX]) (o := 0) ty42 rfl rfl rfl rfl (one_cons rfl (one_cons hnX.one one_nil)) hb46 (Nat.le_of_ble_eq_true rfl)) ?_
   rintro w49 ⟨hn50, hx51, hz52⟩
   replace hE := hE.nb hx51 ge_b44
   have nb_hx51 := (Nb.of hb46 (nu_cons rfl (nu_cons rfl nu_nil)))
   replace hb46 : Bk w49 b44 42 [(.bool sX), vnX] := hn50
   refine aS (v := vdX) rfl (RL.nil (wsr ?_))
   have hm54 := Ext.trans he22 (Ext.trans he42 he45)
   replace hb9 := (hb9.ext hm54).exc hx51 (Nat.ne_of_lt (Nat.lt_trans lt_b7_b12 lt_b12_b44))
   have hc53 := hb9.cells (o := 0) (cs := [(.bool sy), vy, uy]) rfl
   refine rV (r_loada (o := 0) (cs := [(.bool sy), vy, uy]) underlying44 ag44 ty44 rfl hc53) ?_
   replace hy := (hy.tr (Sm.ext hm54)).apn hx51 nb_hx51
   replace hdy := (hdy.tr (Sm.ext hm54)).apn hx51 nb_hx51
   refine RL.call rfl rfl (by decide) (r_call (vl := [(.agg #[(.bool sy), vy, uy])]) ent67 rfl) (q_parts hy (by assumption) (by first | omega | simp) hdy (by assumption) (by first | omega | simp) (show ratOf sy (val y) (val dy) = qy from ey)) ?_
   rintro _ w55 ⟨⟨sY, vnY, vdY, xnY, xdY, rfl, hnY, lmnY, lnnY, hdY, lmdY, lndY, nzY, eqY⟩, he56⟩
   replace hE := hE.nx he56
   refine mV (v := (.tuple #[(.agg #[(.bool sY), vnY]), vdY])) rfl (rV (r_extract (v := (.agg #[(.bool sY), vnY])) rfl rfl) (rV (r_extract (v := vdY) rfl rfl) ?_))
   refine rU (h_alloc (cs := [(.bool false), (.slice none 0 0)]) ty42 rfl) ?_
   rintro _ w57 ⟨b58, rfl, hs61, hb60, he59⟩
   replace hb46 := hb46.ext he56
   have lt_b44_b58 := Nat.lt_of_lt_of_eq hb46.lt hs61.symm
   have ge_b58 := hE.ge hs61
   replace hE := hE.nx he59
   refine RL.runs rfl rfl (h_store (vv := (.agg #[(.bool sY), vnY])) (cs := [(.bool sY), vnY]) (o := 0) ty42 rfl rfl rfl rfl (one_cons rfl (one_cons hnY.one one_nil)) hb60 (Nat.le_of_ble_eq_true rfl)) ?_
   rintro w62 ⟨hn63, hx64, hz65⟩
   replace hE := hE.nb hx64 ge_b58
   have nb_hx64 := (Nb.of hb60 (nu_cons rfl (nu_cons rfl nu_nil)))
   replace hb60 : Bk w62 b58 42 [(.bool sY), vnY] := hn63
   refine aS (v := vdY) rfl (RL.nil (wsr ?_))
   replace hb46 := (hb46.ext he59).exc hx64 (Nat.ne_of_lt lt_b44_b58)
   have hc66 := hb46.cells (o := 0) (cs := [(.bool sX), vnX]) rfl
   refine rV (r_loada (o := 0) (cs := [(.bool sX), vnX]) underlying42 ag42 ty42 rfl hc66) ?_
   have hc67 := hb60.cells (o := 0) (cs := [(.bool sY), vnY]) rfl
   refine rV (r_loada (o := 0) (cs := [(.bool sY), vnY]) underlying42 ag42 ty42 rfl hc67) ?_
   replace hnX := (((hnX.tr (Sm.ext he45)).apn hx51 nb_hx51).tr (Sm.ext (Ext.trans he56 he59))).apn hx64 nb_hx64
   replace hnY := (hnY.tr (Sm.ext he59)).apn hx64 nb_hx64
   refine RL.call rfl rfl (by decide) (r_call (vl := [(.agg #[(.bool sX), vnX]), (.agg #[(.bool sY), vnY])]) ent79 rfl) (i_mul hnX lmnX (by first | omega | simp) rfl hnY lmnY (by first | omega | simp) rfl) ?_
   rintro _ w68 ⟨⟨vr70, rfl, hr71, hl72⟩, he69⟩
   replace hr71 := hr71.fr hE
   replace hE := hE.nx he69
   refine mV (v := vdX) rfl (mV (v := vdY) rfl ?_)
   replace hdX := ((((hdX.tr (Sm.ext he45)).apn hx51 nb_hx51).tr (Sm.ext (Ext.trans he56 he59))).apn hx64 nb_hx64).tr (Sm.ext he69)
   replace hdY := ((hdY.tr (Sm.ext he59)).apn hx64 nb_hx64).tr (Sm.ext he69)
   refine cL ent80 (n_mul hdX lmdX (by first | omega | simp) hdY lmdY (by first | omega | simp)) rfl ?_
   rintro vr75 w73 ⟨hr76, he74⟩
   replace hr76 := hr76.fr hE
   replace hE := hE.nx he74
   have hlv77 := dl_val (x := xdX) lmdX
   have hlv78 := dl_val (x := xdY) lmdY
   have hlv79 := dl_mul (val xdX) (val xdY)
   have hnz : val (digs (val xdX * val xdY)) ≠ 0 := by rw [val_digs]; exact Nat.mul_ne_zero nzX nzY
   replace hr71 := hr71.tr (Sm.ext he74)
   refine RL.call rfl rfl (by decide) (r_call (vl := [(.agg #[(.bool (decide (((sg sX (val xnX)) * (sg sY (val xnY))) < 0))), vr70]), vr75]) ent71 rfl) (q_lowest hr71 (digs_lm _) (by first | omega | simp) (sg_canon _) hr76 (digs_lm _) (by first | omega | simp) (by first | assumption | exact hnz)) ?_
   rintro vv88 w80 ⟨⟨vn82, vd84, hv89, hn83, hd85, hl86, hl87⟩, he81⟩
   simp only [val_digs] at hv89
   subst hv89
   simp only [val_digs] at hn83 hd85 hl86 hl87
   have hlv90 := den_one (Rat.divInt ((sg sX (val xnX)) * (sg sY (val xnY))) ((((val xdX) * (val xdY)) : Nat) : Int))
   replace hn83 := hn83.fr hE
   replace hd85 := hd85.fr hE
   replace hE := hE.nx he81
   have hm95 := Ext.trans he69 (Ext.trans he74 he81)
   replace hb14 := ((((hb14.ext he45).exc hx51 (Nat.ne_of_lt lt_b12_b44)).ext (Ext.trans he56 he59)).exc hx64 (Nat.ne_of_lt (Nat.lt_trans lt_b12_b44 lt_b44_b58))).ext hm95
   refine RL.runs rfl rfl (h_store (vv := (.agg #[(.bool (decide ((Rat.divInt ((sg sX (val xnX)) * (sg sY (val xnY))) ((((val xdX) * (val xdY)) : Nat) : Int)).num < 0))), vn82, vd84])) (cs := [(.bool (decide ((Rat.divInt ((sg sX (val xnX)) * (sg sY (val xnY))) ((((val xdX) * (val xdY)) : Nat) : Int)).num < 0))), vn82, vd84]) (o := 0) ty44 rfl rfl rfl rfl (one_cons rfl (one_cons hn83.one (one_cons hd85.one one_nil))) hb14 (Nat.le_of_ble_eq_true rfl)) ?_
   rintro w91 ⟨hn92, hx93, hz94⟩
   replace hE := hE.nb hx93 ge_b12
   have nb_hx93 := (Nb.of hb14 (nu_cons rfl (nu_cons rfl (nu_cons rfl nu_nil))))
   replace hb14 : Bk w91 b12 44 [(.bool (decide ((Rat.divInt ((sg sX (val xnX)) * (sg sY (val xnY))) ((((val xdX) * (val xdY)) : Nat) : Int)).num < 0))), vn82, vd84] := hn92
   refine RL.nil ?_
   refine wret ?_
   refine ⟨[(.agg #[(.bool (decide ((Rat.divInt ((sg sX (val xnX)) * (sg sY (val xnY))) ((((val xdX) * (val xdY)) : Nat) : Int)).num < 0))), vn82, vd84])], ⟨⟨_, _, [(.bool (decide ((Rat.divInt ((sg sX (val xnX)) * (sg sY (val xnY))) ((((val xdX) * (val xdY)) : Nat) : Int)).num < 0))), vn82, vd84], rfl, ⟨_, underlying44⟩, hb14.cells rfl, .inl ⟨ag44, ⟨_, _, ty44⟩, rfl⟩⟩, trivial⟩, ?_⟩
   have hlr := rmul_len qx qy
   have hq : (Rat.divInt ((sg sX (val xnX)) * (sg sY (val xnY))) ((((val xdX) * (val xdY)) : Nat) : Int)) = (qx * qy) := by first | exact rmul_small hsx1.2.2.2.2 hsy1.2.2.2.2 | (rw [Int.natCast_mul]; exact rmul_small eqX eqY)
   replace hn83 := hn83.apn hx93 nb_hx93
   replace hd85 := hd85.apn hx93 nb_hx93
   exact ⟨⟨_, _, agg3 (congrArg (fun z : Rat => decide (z.num < 0)) hq), by rw [← hq]; exact hn83, by rw [← hq]; exact hd85, by omega, by omega⟩, hE⟩
 ·have hb24p := hb24
  refine RL.gno rfl rfl (bool_eq hb24) rfl (by decide) ?_
  refine rV (r_pick_f (v := (.bool false)) (bool_eq hb24) rfl) (RL.nil ?_)
  refine wcond_f rfl ?_
  refine wskip ?_
  refine wsr ?_
  replace hb4 := hb4.ext (Ext.trans he18 he22)
  have hc96 := hb4.cells (o := 0) (cs := [(.bool sx), vx, ux]) rfl
  refine rV (r_loada (o := 0) (cs := [(.bool sx), vx, ux]) underlying44 ag44 ty44 rfl hc96) ?_
  replace hx := hx.tr (Sm.ext (Ext.trans he18 he22))
  replace hdx := hdx.tr (Sm.ext (Ext.trans he18 he22))
  refine RL.call rfl rfl (by decide) (r_call (vl := [(.agg #[(.bool sx), vx, ux])]) ent67 rfl) (q_parts hx (by assumption) (by first | omega | simp) hdx (by assumption) (by first | omega | simp) (show ratOf sx (val x) (val dx) = qx from ex)) ?_
  rintro _ w97 ⟨⟨sX, vnX, vdX, xnX, xdX, rfl, hnX, lmnX, lnnX, hdX, lmdX, lndX, nzX, eqX⟩, he98⟩
  replace hE := hE.nx he98
  refine mV (v := (.tuple #[(.agg #[(.bool sX), vnX]), vdX])) rfl (rV (r_extract (v := (.agg #[(.bool sX), vnX])) rfl rfl) (rV (r_extract (v := vdX) rfl rfl) ?_))
  refine rU (h_alloc (cs := [(.bool false), (.slice none 0 0)]) ty42 rfl) ?_
  rintro _ w99 ⟨b100, rfl, hs103, hb102, he101⟩
  have hm104 := Ext.trans he18 (Ext.trans he22 he98)
  replace hb14 := hb14.ext hm104
  have lt_b12_b100 := Nat.lt_of_lt_of_eq hb14.lt hs103.symm
  have ge_b100 := hE.ge hs103
  replace hE := hE.nx he101
  refine RL.runs rfl rfl (h_store (vv := (.agg #[(.bool sX), vnX])) (cs := [(.bool sX), vnX]) (o := 0) ty42 rfl rfl rfl rfl (one_cons rfl (one_cons hnX.one one_nil)) hb102 (Nat.le_of_ble_eq_true rfl)) ?_
  rintro w105 ⟨hn106, hx107, hz108⟩
  replace hE := hE.nb hx107 ge_b100
  have nb_hx107 := (Nb.of hb102 (nu_cons rfl (nu_cons rfl nu_nil)))
  replace hb102 : Bk w105 b100 42 [(.bool sX), vnX] := hn106
  refine aS (v := vdX) rfl (RL.nil (wsr ?_))
  have hm110 := Ext.trans he22 (Ext.trans he98 he101)
  replace hb9 := (hb9.ext hm110).exc hx107 (Nat.ne_of_lt (Nat.lt_trans lt_b7_b12 lt_b12_b100))
  have hc109 := hb9.cells (o := 0) (cs := [(.bool sy), vy, uy]) rfl
  refine rV (r_loada (o := 0) (cs := [(.bool sy), vy, uy]) underlying44 ag44 ty44 rfl hc109) ?_
  replace hy := (hy.tr (Sm.ext hm110)).apn hx107 nb_hx107
  replace hdy := (hdy.tr (Sm.ext hm110)).apn hx107 nb_hx107
  refine RL.call rfl rfl (by decide) (r_call (vl := [(.agg #[(.bool sy), vy, uy])]) ent67 rfl) (q_parts hy (by assumption) (by first | omega | simp) hdy (by assumption) (by first | omega | simp) (show ratOf sy (val y) (val dy) = qy from ey)) ?_
  rintro _ w111 ⟨⟨sY, vnY, vdY, xnY, xdY, rfl, hnY, lmnY, lnnY, hdY, lmdY, lndY, nzY, eqY⟩, he112⟩
  replace hE := hE.nx he112
  refine mV (v := (.tuple #[(.agg #[(.bool sY), vnY]), vdY])) rfl (rV (r_extract (v := (.agg #[(.bool sY), vnY])) rfl rfl) (rV (r_extract (v := vdY) rfl rfl) ?_))
  refine rU (h_alloc (cs := [(.bool false), (.slice none 0 0)]) ty42 rfl) ?_
  rintro _ w113 ⟨b114, rfl, hs117, hb116, he115⟩
  replace hb102 := hb102.ext he112
  have lt_b100_b114 := Nat.lt_of_lt_of_eq hb102.lt hs117.symm
  have ge_b114 := hE.ge hs117
  replace hE := hE.nx he115
  refine RL.runs rfl rfl (h_store (vv := (.agg #[(.bool sY), vnY])) (cs := [(.bool sY), vnY]) (o := 0) ty42 rfl rfl rfl rfl (one_cons rfl (one_cons hnY.one one_nil)) hb116 (Nat.le_of_ble_eq_true rfl)) ?_
  rintro w118 ⟨hn119, hx120, hz121⟩
  replace hE := hE.nb hx120 ge_b114
  have nb_hx120 := (Nb.of hb116 (nu_cons rfl (nu_cons rfl nu_nil)))
  replace hb116 : Bk w118 b114 42 [(.bool sY), vnY] := hn119
  refine aS (v := vdY) rfl (RL.nil (wsr ?_))
  replace hb102 := (hb102.ext he115).exc hx120 (Nat.ne_of_lt lt_b100_b114)
  have hc122 := hb102.cells (o := 0) (cs := [(.bool sX), vnX]) rfl
  refine rV (r_loada (o := 0) (cs := [(.bool sX), vnX]) underlying42 ag42 ty42 rfl hc122) ?_
  have hc123 := hb116.cells (o := 0) (cs := [(.bool sY), vnY]) rfl
  refine rV (r_loada (o := 0) (cs := [(.bool sY), vnY]) underlying42 ag42 ty42 rfl hc123) ?_
  replace hnX := (((hnX.tr (Sm.ext he101)).apn hx107 nb_hx107).tr (Sm.ext (Ext.trans he112 he115))).apn hx120 nb_hx120
  replace hnY := (hnY.tr (Sm.ext he115)).apn hx120 nb_hx120
  refine RL.call rfl rfl (by decide) (r_call (vl := [(.agg #[(.bool sX), vnX]), (.agg #[(.bool sY), vnY])]) ent79 rfl) (i_mul hnX lmnX (by first | omega | simp) rfl hnY lmnY (by first | omega | simp) rfl) ?_
  rintro _ w124 ⟨⟨vr126, rfl, hr127, hl128⟩, he125⟩
  replace hr127 := hr127.fr hE
  replace hE := hE.nx he125
  refine mV (v := vdX) rfl (mV (v := vdY) rfl ?_)
  replace hdX := ((((hdX.tr (Sm.ext he101)).apn hx107 nb_hx107).tr (Sm.ext (Ext.trans he112 he115))).apn hx120 nb_hx120).tr (Sm.ext he125)
  replace hdY := ((hdY.tr (Sm.ext he115)).apn hx120 nb_hx120).tr (Sm.ext he125)
  refine cL ent80 (n_mul hdX lmdX (by first | omega | simp) hdY lmdY (by first | omega | simp)) rfl ?_
  rintro vr131 w129 ⟨hr132, he130⟩
  replace hr132 := hr132.fr hE
  replace hE := hE.nx he130
  have hlv133 := dl_val (x := xdX) lmdX
  have hlv134 := dl_val (x := xdY) lmdY
  have hlv135 := dl_mul (val xdX) (val xdY)
  have hnz : val (digs (val xdX * val xdY)) ≠ 0 := by rw [val_digs]; exact Nat.mul_ne_zero nzX nzY
  replace hr127 := hr127.tr (Sm.ext he130)
  refine RL.call rfl rfl (by decide) (r_call (vl := [(.agg #[(.bool (decide (((sg sX (val xnX)) * (sg sY (val xnY))) < 0))), vr126]), vr131]) ent71 rfl) (q_lowest hr127 (digs_lm _) (by first | omega | simp) (sg_canon _) hr132 (digs_lm _) (by first | omega | simp) (by first | assumption | exact hnz)) ?_
  rintro vv144 w136 ⟨⟨vn138, vd140, hv145, hn139, hd141, hl142, hl143⟩, he137⟩
  simp only [val_digs] at hv145
  subst hv145
  simp only [val_digs] at hn139 hd141 hl142 hl143
  have hlv146 := den_one (Rat.divInt ((sg sX (val xnX)) * (sg sY (val xnY))) ((((val xdX) * (val xdY)) : Nat) : Int))
  replace hn139 := hn139.fr hE
  replace hd141 := hd141.fr hE
  replace hE := hE.nx he137
  have hm151 := Ext.trans he125 (Ext.trans he130 he137)
  replace hb14 := ((((hb14.ext he101).exc hx107 (Nat.ne_of_lt lt_b12_b100)).ext (Ext.trans he112 he115)).exc hx120 (Nat.ne_of_lt (Nat.lt_trans lt_b12_b100 lt_b100_b114))).ext hm151
  refine RL.runs rfl rfl (h_store (vv := (.agg #[(.bool (decide ((Rat.divInt ((sg sX (val xnX)) * (sg sY (val xnY))) ((((val xdX) * (val xdY)) : Nat) : Int)).num < 0))), vn138, vd140])) (cs := [(.bool (decide ((Rat.divInt ((sg sX (val xnX)) * (sg sY (val xnY))) ((((val xdX) * (val xdY)) : Nat) : Int)).num < 0))), vn138, vd140]) (o := 0) ty44 rfl rfl rfl rfl (one_cons rfl (one_cons hn139.one (one_cons hd141.one one_nil))) hb14 (Nat.le_of_ble_eq_true rfl)) ?_
  rintro w147 ⟨hn148, hx149, hz150⟩
  replace hE := hE.nb hx149 ge_b12
  have nb_hx149 := (Nb.of hb14 (nu_cons rfl (nu_cons rfl (nu_cons rfl nu_nil))))
  replace hb14 : Bk w147 b12 44 [(.bool (decide ((Rat.divInt ((sg sX (val xnX)) * (sg sY (val xnY))) ((((val xdX) * (val xdY)) : Nat) : Int)).num < 0))), vn138, vd140] := hn148
  refine RL.nil ?_
  refine wret ?_
  refine ⟨[(.agg #[(.bool (decide ((Rat.divInt ((sg sX (val xnX)) * (sg sY (val xnY))) ((((val xdX) * (val xdY)) : Nat) : Int)).num < 0))), vn138, vd140])], ⟨⟨_, _, [(.bool (decide ((Rat.divInt ((sg sX (val xnX)) * (sg sY (val xnY))) ((((val xdX) * (val xdY)) : Nat) : Int)).num < 0))), vn138, vd140], rfl, ⟨_, underlying44⟩, hb14.cells rfl, .inl ⟨ag44, ⟨_, _, ty44⟩, rfl⟩⟩, trivial⟩, ?_⟩
  have hlr := rmul_len qx qy
  have hq : (Rat.divInt ((sg sX (val xnX)) * (sg sY (val xnY))) ((((val xdX) * (val xdY)) : Nat) : Int)) = (qx * qy) := by first | exact rmul_small hsx1.2.2.2.2 hsy1.2.2.2.2 | (rw [Int.natCast_mul]; exact rmul_small eqX eqY)
  replace hn139 := hn139.apn hx149 nb_hx149
  replace hd141 := hd141.apn hx149 nb_hx149
  exact ⟨⟨_, _, agg3 (congrArg (fun z : Rat => decide (z.num < 0)) hq), by rw [← hq]; exact hn139, by rw [← hq]; exact hd141, by omega, by omega⟩, hE⟩
end Go.Proofs.YtffgajgibddfmaaGreat
namespace Go.Vg
open Go Go.RowKit Go.Vm
abbrev SV : Type := Option Addr × Nat × Nat
abbrev sv (s : SV) : Value := .slice s.1 s.2.1 s.2.2
abbrev EC : Type := Int × Bool × SV × SV
abbrev entC : EC → List Value := fun x => [.int .i64 x.1, .bool x.2.1, sv x.2.2.1, sv x.2.2.2]
abbrev encE (x : EC) : Value := .agg #[.int .i64 x.1, .bool x.2.1, sv x.2.2.1, sv x.2.2.2]
theorem entC_len (x : EC) : (entC x).length = 4 := rfl
def Ae (post : List Value) (w : World) (b : Nat) (T : TypeId) (xs : List EC) (n : Nat) : Prop := Bk w b T ((xs.map entC).flatten ++ post) ∧ xs.length = n
section
variable {w w' : World} {b n : Nat} {T : TypeId} {xs : List EC} {D : Nat → TypeId → Prop} {post : List Value}
theorem Ae.ext (h : Ae post w b T xs n) (e : Ext w w') : Ae post w' b T xs n := ⟨h.1.ext e, h.2⟩
theorem Ae.exc {b0 : Nat} (h : Ae post w b T xs n) (e : Exc b0 w w') (hne : b ≠ b0) : Ae post w' b T xs n := ⟨h.1.exc e hne, h.2⟩
theorem Ae.lt (h : Ae post w b T xs n) : b < w.heap.size := h.1.lt
theorem Ae.len (h : Ae post w b T xs n) : xs.length = n := h.2
theorem Ae.sm (h : Ae post w b T xs n) (e : Exc b w w') (hD : ¬ D b T) : Sm D w w' := h.1.sm e hD
theorem noU_flat (xs : List EC) : NoU (xs.map entC).flatten := by
  intro u hu
  obtain ⟨l, hl, hu⟩ := List.mem_flatten.1 hu
  obtain ⟨x, -, rfl⟩ := List.mem_map.1 hl
  simp [entC] at hu
  rcases hu with rfl | rfl | rfl | rfl <;> rfl
theorem Ae.nb (h : Ae post w b T xs n) (hp : NoU post) : Nb w b := ⟨T, _, h.1, fun u hu => (List.mem_append.1 hu).elim (noU_flat xs u) (hp u)⟩
theorem Ae.cell (h : Ae post w b T xs n) {i : Int} (k : Nat) (hi : i = (k : Int)) (hk : k < n) : ∀ j u, (entC (xs.getD k default))[j]? = some u → w.cell? ⟨b, 0 + i.toNat * 4 + j, none⟩ = some u := fun j u hj => by
  obtain ⟨h1, h2⟩ := h
  subst hi
  have hx : xs[k]? = some (xs.getD k default) := by simp [show k < xs.length by omega]
  refine h1.cell ?_
  rw [Nat.zero_add, Int.toNat_natCast]
  have h4 := flat_at (c := entC) (fun x _ => entC_len x) hx hj
  rw [List.getElem?_append_left (by obtain ⟨h5, -⟩ := List.getElem?_eq_some_iff.1 h4; exact h5)]
  exact h4
theorem Ae.cellr (h : Ae post w b T xs n) {i : Int} (k : Nat) (hi : i = (k : Int)) (hk : k < n) : ∀ j u, (ratC ((xs.getD k default).2.1, sv (xs.getD k default).2.2.1, sv (xs.getD k default).2.2.2))[j]? = some u → w.cell? ⟨b, 0 + i.toNat * 4 + 1 + j, none⟩ = some u := fun j u hj => by
  have := h.cell k hi hk (1 + j) u (by
    match j, hj with
    | 0, hj => exact hj
    | 1, hj => exact hj
    | 2, hj => exact hj
    | j + 3, hj => simp at hj)
  rw [Nat.add_assoc]; exact this
theorem Ae.ss {c : Nat} (h : Ae post w b T xs n) (hd : D b T) (hc : n ≤ c) (hm : c ≤ 9223372036854775807) : Ss entC 4 D w (.slice (some ⟨b, 0, none⟩) n c) xs := by
  obtain ⟨h1, h2⟩ := h
  refine ⟨⟨by decide, fun x _ => entC_len x⟩, _, c, by rw [h2], by rw [h2]; exact hc, by simpa [maxLen] using hm, by rw [flat_len entC_len], .inr ⟨b, 0, rfl, .inr ⟨_, T, (0, 0), h1, hd, fun j u hj => ?_⟩⟩⟩
  rw [Nat.zero_add, List.getElem?_toArray, List.getElem?_append_left (by obtain ⟨h5, -⟩ := List.getElem?_eq_some_iff.1 hj; exact h5)]
  exact hj
end
theorem one_ent (x : EC) : ∀ q ∈ entC x, q.oneCell' = true := by
  intro q hq
  simp [entC] at hq
  rcases hq with rfl | rfl | rfl | rfl <;> rfl
section
variable {P : Program} {f : Nat → Value} {w : World} {dst : Option Tmp} {ty : TypeId} {pos : String} {aft : Array Edge} {gd : Option (Nat × Bool)} {x y z : Operand} {t e : TypeId}
theorem spl_post (l cs p : List Value) (o : Nat) (h : o + cs.length ≤ l.length) : spl (l ++ p) o cs = spl l o cs ++ p := by
  unfold spl
  rw [List.take_append_of_le_length (by omega), List.drop_append_of_le_length h]
  simp
theorem h_setE {post : List Value} {T : TypeId} {b n bytes : Nat} {xs : List EC} {u : EC} {i : Int} {vv zz : Value} (ht : TyI P t 4 bytes zz) (hx : ev f x = .pointer (some ⟨b, 0 + i.toNat * 4, none⟩)) (hy : ev f y = vv) (hv : vv.cells = (entC u).toArray)
    (ha : Ae post w b T xs n) (k : Nat) (hi : i = (k : Int)) (hk : k < n) :
    RunS P f ⟨dst, .store t x y, ty, pos, aft, gd⟩ w fun w' => Ae post w' b T (xs.set k u) n ∧ Exc b w w' := by
  obtain ⟨hb, hl⟩ := ha
  subst hi
  have hk' : k < xs.length := by omega
  have e1 : 0 + ((k : Int)).toNat * 4 = k * 4 := by rw [Int.toNat_natCast, Nat.zero_add]
  rw [e1] at hx
  have hfit : k * 4 + (entC u).length ≤ (xs.map entC).flatten.length := by rw [flat_len entC_len, entC_len]; omega
  obtain ⟨w', hr, h5, h6, _⟩ := h_store (P := P) (f := f) (dst := dst) (ty := ty) (pos := pos) (aft := aft) (g := gd) (cs := entC u) ht hx hy hv (entC_len u) (one_ent u) hb (by rw [List.length_append]; omega)
  refine ⟨w', hr, ⟨?_, by simpa using hl⟩, h6⟩
  rw [spl_post _ _ _ _ hfit, flat_set entC_len xs k u hk'] at h5
  exact h5
theorem spl_in (l : List Value) (o : Nat) (a b c : List Value) (h : spl l o a = l) (hl : o + a.length ≤ l.length) (ha : a.length = b.length) {m : Nat} (hm : m + c.length ≤ a.length) (hc : spl a m c = b) : spl l (o + m) c = spl l o b := by
  unfold spl at *
  have ht : (l.take o).length = o := by rw [List.length_take]; omega
  rw [← h, ← hc]
  have e0 : (l.take o ++ a ++ l.drop (o + a.length)) = l.take o ++ (a ++ l.drop (o + a.length)) := by rw [List.append_assoc]
  have hb : (a.take m ++ c ++ a.drop (m + c.length)).length = a.length := by simp; omega
  rw [e0, List.take_append, List.drop_append, ht]
  rw [List.take_of_length_le (show (l.take o).length ≤ o + m by omega), List.drop_of_length_le (show (l.take o).length ≤ o + m + c.length by omega)]
  rw [show o + m - o = m by omega, show o + m + c.length - o = m + c.length by omega, List.take_append_of_le_length (by omega), List.drop_append_of_le_length (by omega)]
  rw [List.take_append, List.take_of_length_le (show (l.take o).length ≤ o by omega), ht, Nat.sub_self, List.take_zero, List.append_nil]
  rw [hb, List.drop_append, List.drop_of_length_le (show (l.take o).length ≤ o + a.length by omega), ht, show o + a.length - o = a.length by omega, List.drop_append, List.drop_of_length_le (show a.length ≤ a.length by omega), Nat.sub_self, List.drop_zero]
  simp
theorem h_setP {post : List Value} {T : TypeId} {b n bytes size m : Nat} {xs : List EC} {u : EC} {cs : List Value} {i : Int} {vv zz : Value} (ht : TyI P t size bytes zz) (hx : ev f x = .pointer (some ⟨b, 0 + i.toNat * 4 + m, none⟩)) (hy : ev f y = vv) (hv : vv.cells = cs.toArray) (hs : cs.length = size) (h1 : ∀ q ∈ cs, q.oneCell' = true)
    (ha : Ae post w b T xs n) (k : Nat) (hi : i = (k : Int)) (hk : k < n) (hm : m + cs.length ≤ 4) (hu : spl (entC (xs.getD k default)) m cs = entC u) :
    RunS P f ⟨dst, .store t x y, ty, pos, aft, gd⟩ w fun w' => Ae post w' b T (xs.set k u) n ∧ Exc b w w' := by
  obtain ⟨hb, hl⟩ := ha
  subst hi
  have hk' : k < xs.length := by omega
  have e1 : 0 + ((k : Int)).toNat * 4 + m = k * 4 + m := by rw [Int.toNat_natCast, Nat.zero_add]
  rw [e1] at hx
  have hfl := flat_len entC_len xs
  have hfit : k * 4 + m + cs.length ≤ (xs.map entC).flatten.length := by rw [hfl]; omega
  obtain ⟨w', hr, h5, h6, _⟩ := h_store (P := P) (f := f) (dst := dst) (ty := ty) (pos := pos) (aft := aft) (g := gd) (cs := cs) ht hx hy hv hs h1 hb (by rw [List.length_append]; omega)
  refine ⟨w', hr, ⟨?_, by simpa using hl⟩, h6⟩
  have hself : spl (xs.map entC).flatten (k * 4) (entC (xs.getD k default)) = (xs.map entC).flatten := by
    rw [flat_set entC_len xs k _ hk']
    congr 2
    rw [List.getD_eq_getElem?_getD, List.getElem?_eq_getElem hk', Option.getD_some]
    exact List.set_getElem_self hk'
  rw [spl_post _ _ _ _ hfit, spl_in _ _ (entC (xs.getD k default)) (entC u) cs hself (by rw [entC_len]; omega) rfl (by rw [entC_len]; exact hm) hu, flat_set entC_len xs k u hk'] at h5
  exact h5
end
end Go.Vg
namespace Go.Proofs.YtffgajgibddfmaaGreat
open Go.Vg Go.RowKit _root_.Go.Proofs.Tryz
set_option linter.unusedVariables false
open Go.Vm
set_option maxHeartbeats 1000000 in
theorem swapRange_ent {post : List Value} {b n cap : Nat} {xs : List EC} {w : World} {a c k : Nat} {fv : Value} (ha : Ae post w b 58 xs n) (hsz : n ≤ 4611686018427387903) (h1 : a + k ≤ c) (h2 : c + k ≤ n) :
    Calls Tryz.prog 147 #[(.slice (some ⟨b, 0, none⟩) (n) (cap)), (.int .i64 (a : Int)), (.int .i64 (c : Int)), (.int .i64 (k : Int)), fv] w fun e w' => ∃ v, e = .returned v ∧ v = .tuple #[] ∧ Ae post w' b 58 (swpR xs a c k) n ∧ Exc b w w' := by
 have hE : Exc b w w := Exc.of_ext (Ext.refl _)
 refine calls_of (n := 38) (rs := []) func147 rfl rfl rfl (Nat.le_of_ble_eq_true rfl) ?_
 refine wset fun F0 hF0 => ?_
 refine wsr (aS (v := (.int .i64 0)) rfl (RL.nil ?_))
 refine wblock ?_
 refine wset fun F1 hF2 => ?_
 refine wloop (σ := Nat) (fun (i : Nat) fl wl => Off [10, 11, 12, 13, 14, 15, 16, 17, 18, 19, 20, 21, 22, 23, 24, 25, 26, 27, 28, 29, 30, 31, 32, 33, 34, 35, 36, 37] F1 fl ∧ fl 10 = (.int .i64 (i : Int)) ∧ (i ≤ k) ∧ (Ae post wl b 58 (swpR xs a c i) n) ∧ (Exc b w wl)) (fun (i : Nat) => k - i) (0) ?_ ?_
 ·exact ⟨Off.refl _ _, (hF2 10).trans (rfl), Nat.zero_le _, ha, hE⟩
 ·clear ha hE
  rintro i f3 w4 ⟨hoff5, hs6, hik, ha, hE⟩
  refine wseq (wsr (mV hs6 (mV (v := (.int .i64 (k : Int))) ((hoff5 3 rfl).trans ((hF2 3).trans (hF0 3))) (rV (r_lss (k := .i64) (a := (i : Int)) (b := (k : Int)) rfl rfl) (RL.nil ?_)))))
  refine wcond (b := decide ((i : Int) < (k : Int))) rfl (fun hb7 => ?_) (fun hb7 => ?_)
  ·have hb7p := of_decide_eq_true hb7
   refine wskip ?_
   refine wseq ?_
   refine wblock ?_
   refine wdraw mixed fun w8 he9 => ?_
   have he9z := he9.size
   replace ha := ha.ext he9
   replace hE := hE.trans (Exc.of_ext he9)
   refine ra 0 rfl (fun _ => r_move_as (v := (.slice (some ⟨b, 0, none⟩) (n) (cap))) ((hoff5 0 rfl).trans ((hF2 0).trans (hF0 0)))) ?_
   refine ra 1 rfl (fun _ => r_move_as (v := (.int .i64 (a : Int))) ((hoff5 1 rfl).trans ((hF2 1).trans (hF0 1)))) ?_
   refine ra 2 rfl (fun _ => r_move_as (v := (.int .i64 (i : Int))) hs6) ?_
   refine ra 3 rfl (fun _ => r_add (k := .i64) (a := (a : Int)) (b := (i : Int)) (c := ((a + i : Nat) : Int)) rfl rfl ((wi64 (by omega)).trans (by omega))) ?_
   refine ra 4 rfl (fun _ => r_move_as (v := (.slice (some ⟨b, 0, none⟩) (n) (cap))) ((hoff5 0 rfl).trans ((hF2 0).trans (hF0 0)))) ?_
   refine ra 5 rfl (fun _ => r_move_as (v := (.int .i64 (c : Int))) ((hoff5 2 rfl).trans ((hF2 2).trans (hF0 2)))) ?_
   refine ra 6 rfl (fun _ => r_move_as (v := (.int .i64 (i : Int))) hs6) ?_
   refine ra 7 rfl (fun _ => r_add (k := .i64) (a := (c : Int)) (b := (i : Int)) (c := ((c + i : Nat) : Int)) rfl rfl ((wi64 (by omega)).trans (by omega))) ?_
   refine ra 8 rfl (fun _ => r_move_as (v := (.slice (some ⟨b, 0, none⟩) (n) (cap))) ((hoff5 0 rfl).trans ((hF2 0).trans (hF0 0)))) ?_
   refine ra 9 rfl (fun _ => r_move_as (v := (.int .i64 (c : Int))) ((hoff5 2 rfl).trans ((hF2 2).trans (hF0 2)))) ?_
   refine ra 10 rfl (fun _ => r_move_as (v := (.int .i64 (i : Int))) hs6) ?_
   refine ra 11 rfl (fun _ => r_add (k := .i64) (a := (c : Int)) (b := (i : Int)) (c := ((c + i : Nat) : Int)) rfl rfl ((wi64 (by omega)).trans (by omega))) ?_
   refine ra 12 rfl (fun _ => r_indexAddr (i := ((c + i : Nat) : Int)) underlying22 ty58 rfl rfl (by omega) (by omega)) ?_
   have hc10 := ha.cell (i := ((c + i : Nat) : Int)) (c + i) (by omega) (by omega)
   refine RA.rd 13 rfl (by kernel_rfl) rfl rfl rfl (by decide) (Ext.refl _) (fun u hu => r_loada (cs := entC ((swpR xs a c i).getD (c + i) default)) underlying58 ag58 ty58 rfl (fun j v hj => cell_ext hu (hc10 j v hj))) ?_
   refine ra 14 rfl (fun _ => r_move_as (v := (.slice (some ⟨b, 0, none⟩) (n) (cap))) ((hoff5 0 rfl).trans ((hF2 0).trans (hF0 0)))) ?_
   refine ra 15 rfl (fun _ => r_move_as (v := (.int .i64 (a : Int))) ((hoff5 1 rfl).trans ((hF2 1).trans (hF0 1)))) ?_
   refine ra 16 rfl (fun _ => r_move_as (v := (.int .i64 (i : Int))) hs6) ?_
   refine ra 17 rfl (fun _ => r_add (k := .i64) (a := (a : Int)) (b := (i : Int)) (c := ((a + i : Nat) : Int)) rfl rfl ((wi64 (by omega)).trans (by omega))) ?_
   refine ra 18 rfl (fun _ => r_indexAddr (i := ((a + i : Nat) : Int)) underlying22 ty58 rfl rfl (by omega) (by omega)) ?_
   have hc11 := ha.cell (i := ((a + i : Nat) : Int)) (a + i) (by omega) (by omega)
   refine RA.rd 19 rfl (by kernel_rfl) rfl rfl rfl (by decide) (Ext.refl _) (fun u hu => r_loada (cs := entC ((swpR xs a c i).getD (a + i) default)) underlying58 ag58 ty58 rfl (fun j v hj => cell_ext hu (hc11 j v hj))) ?_
   refine ra 20 rfl (fun _ => r_indexAddr (i := ((a + i : Nat) : Int)) underlying22 ty58 rfl rfl (by omega) (by omega)) ?_
   refine RA.all [21] (by kernel_rfl) rfl ?_
   refine RS.runs rfl rfl rfl (h_setE (u := (swpR xs a c i).getD (c + i) default) (i := ((a + i : Nat) : Int)) ty58 rfl rfl rfl ha (a + i) (by omega) (by omega)) ?_ RS.nil
   rintro w12 ⟨ha13, hx14⟩
   refine ⟨.inr (.inl (by kernel_rfl)), ?_⟩
   have hx14z := hx14.size
   replace hE := hE.trans hx14
   replace ha := ha13
   refine ra 22 rfl (fun _ => r_indexAddr (i := ((c + i : Nat) : Int)) underlying22 ty58 rfl rfl (by omega) (by omega)) ?_
   refine RA.all [23] (by kernel_rfl) rfl ?_
   refine RS.runs rfl rfl rfl (h_setE (u := (swpR xs a c i).getD (a + i) default) (i := ((c + i : Nat) : Int)) ty58 rfl rfl rfl ha (c + i) (by omega) (by omega)) ?_ RS.nil
   rintro w15 ⟨ha16, hx17⟩
   refine ⟨.inr (.inl (by kernel_rfl)), ?_⟩
   have hx17z := hx17.size
   replace hE := hE.trans hx17
   replace ha := ha16
   refine RA.done (by kernel_rfl) ?_
   refine wregion (mV hs6 (rV (r_add (k := .i64) (a := (i : Int)) (b := 1) (c := (i : Int) + 1) rfl rfl (wi64 (by omega))) (aS (v := (.int .i64 ((i : Int) + 1))) rfl (RL.nil ?_))))
   refine ⟨(i + 1), ⟨?_, ?_, ?_, ?_, ?_⟩, ?_⟩
   · exact (by repeat (first | exact hoff5 | refine Off.st ?_ (by decide) _))
   · first | rfl | exact int_eq (by omega) | exact bool_eq (by simp)
   · omega
   · exact ha
   · exact hE
   · (try dsimp only)
     omega
  ·have hb7p := of_decide_eq_false hb7
   refine wexit ?_
   refine ⟨[], trivial, ?_⟩
   have hik2 : i = k := by omega
   subst hik2
   exact ⟨rfl, ha, hE⟩
set_option maxHeartbeats 1000000 in
theorem rotate_ent {post : List Value} {b n cap : Nat} {xs : List EC} {w : World} {a m c : Nat} {LA LU LV LB : List EC} {fv : Value} (ha : Ae post w b 58 xs n) (hsz : n ≤ 4611686018427387903) (hxs : xs = LA ++ LU ++ LV ++ LB) (h1 : LA.length = a) (h2 : a + LU.length = m) (h3 : m + LV.length = c) (h4 : 0 < LU.length) (h5 : 0 < LV.length) :
    Calls Tryz.prog 145 #[(.slice (some ⟨b, 0, none⟩) (n) (cap)), (.int .i64 (a : Int)), (.int .i64 (m : Int)), (.int .i64 (c : Int)), fv] w fun e w' => ∃ v, e = .returned v ∧ v = .tuple #[] ∧ Ae post w' b 58 (LA ++ LV ++ LU ++ LB) n ∧ Exc b w w' := by
 have hE : Exc b w w := Exc.of_ext (Ext.refl _)
 have hn : LA.length + LU.length + LV.length + LB.length = n := by have := ha.len; rw [hxs] at this; simp at this; omega
 refine calls_of (n := 58) (rs := []) func145 rfl rfl rfl (Nat.le_of_ble_eq_true rfl) ?_
 refine wset fun F0 hF0 => ?_
 refine wsr (mV (v := (.int .i64 (m : Int))) (hF0 2) (mV (v := (.int .i64 (a : Int))) (hF0 1) (rV (r_sub (k := .i64) (a := (m : Int)) (b := (a : Int)) (c := (m : Int) - (a : Int)) rfl rfl (wi64 (by omega))) (aS (v := (.int .i64 ((m : Int) - (a : Int)))) rfl (RL.nil (wsr (mV (v := (.int .i64 (c : Int))) (hF0 3) (mV (v := (.int .i64 (m : Int))) (hF0 2) (rV (r_sub (k := .i64) (a := (c : Int)) (b := (m : Int)) (c := (c : Int) - (m : Int)) rfl rfl (wi64 (by omega))) (aS (v := (.int .i64 ((c : Int) - (m : Int)))) rfl (RL.nil (wseq ?_))))))))))))
 refine wblock ?_
 refine wset fun F1 hF2 => ?_
 refine wloop (σ := List EC × List EC × List EC × List EC) (fun (s : List EC × List EC × List EC × List EC) fl wl => match s with | (X, Y, PP, SS) => Off [10, 11, 18, 19, 20, 21, 22, 23, 24, 25, 26, 27, 28, 29, 30, 31, 32, 33, 34, 35, 36, 37, 38, 39, 40, 41, 42, 43, 44, 45, 46, 47, 48, 49] F1 fl ∧ fl 10 = (.int .i64 (((X.length : Nat) : Int))) ∧ fl 11 = (.int .i64 (((Y.length : Nat) : Int))) ∧ (PP ++ Y ++ X ++ SS = LV ++ LU) ∧ (LA.length + PP.length + X.length = m) ∧ (0 < X.length) ∧ (0 < Y.length) ∧ (PP.length + X.length + Y.length + SS.length = LU.length + LV.length) ∧ (Ae post wl b 58 (LA ++ PP ++ X ++ Y ++ SS ++ LB) n) ∧ (Exc b w wl)) (fun (s : List EC × List EC × List EC × List EC) => match s with | (X, Y, PP, SS) => X.length + Y.length) (LU, LV, [], []) ?_ ?_
 ·exact ⟨Off.refl _ _, (hF2 10).trans ((int_eq (by omega))), (hF2 11).trans ((int_eq (by omega))), by simp, by simp; omega, h4, h5, by simp, (by rw [hxs] at ha; simpa using ha), hE⟩
 ·clear ha hE
  rintro ⟨X, Y, PP, SS⟩ f3 w4 ⟨hoff5, hs6, hs7, hT, hm, hx0, hy0, hY, ha, hE⟩
  refine wseq (wsr (mV hs6 (mV hs7 (rV (r_neq (k := .i64) (a := ((X.length : Nat) : Int)) (b := ((Y.length : Nat) : Int)) rfl rfl) (RL.nil ?_)))))
  refine wcond (b := decide (((X.length : Nat) : Int) ≠ ((Y.length : Nat) : Int))) rfl (fun hb8 => ?_) (fun hb8 => ?_)
  ·have hb8p := of_decide_eq_true hb8
   refine wskip ?_
   refine wblock ?_
   refine wsr (mV hs6 (mV hs7 (rV (r_gtr (k := .i64) (a := ((X.length : Nat) : Int)) (b := ((Y.length : Nat) : Int)) rfl rfl) (RL.nil ?_))))
   refine wcond (b := decide (((Y.length : Nat) : Int) < ((X.length : Nat) : Int))) rfl (fun hb9 => ?_) (fun hb9 => ?_)
   ·have hb9p := of_decide_eq_true hb9
    refine wsr (mV (v := (.slice (some ⟨b, 0, none⟩) (n) (cap))) ((hoff5 0 rfl).trans ((hF2 0).trans (hF0 0))) (mV (v := (.int .i64 (m : Int))) ((hoff5 2 rfl).trans ((hF2 2).trans (hF0 2))) (mV hs6 (rV (r_sub (k := .i64) (a := (m : Int)) (b := ((X.length : Nat) : Int)) (c := ((LA.length + PP.length : Nat) : Int)) rfl rfl ((wi64 (by omega)).trans (by omega))) (mV (v := (.int .i64 (((LA.length + PP.length + X.length : Nat) : Int)))) (((hoff5 2 rfl).trans ((hF2 2).trans (hF0 2))).trans (int_eq (by omega))) (mV hs7 (mV (v := fv) ((hoff5 4 rfl).trans ((hF2 4).trans (hF0 4))) ?_)))))))
    refine cL ent147 (swapRange_ent (a := LA.length + PP.length) (c := LA.length + PP.length + X.length) (k := Y.length) ha hsz (by omega) (by omega)) rfl ?_
    rintro _ w10 ⟨rfl, ha11, hx12⟩
    replace hE := hE.trans hx12
    replace ha := ha11
    refine RL.nil (wregion (mV hs6 (mV hs7 (rV (r_sub (k := .i64) (a := ((X.length : Nat) : Int)) (b := ((Y.length : Nat) : Int)) (c := ((X.length : Nat) : Int) - ((Y.length : Nat) : Int)) rfl rfl (wi64 (by omega))) (aS (v := (.int .i64 (((X.length : Nat) : Int) - ((Y.length : Nat) : Int)))) rfl (RL.nil ?_))))))
    refine ⟨(X.drop Y.length, X.take Y.length, PP ++ Y, SS), ⟨?_, ?_, ?_, ?_, ?_, ?_, ?_, ?_, ?_, ?_⟩, ?_⟩
    · exact (by repeat (first | exact hoff5 | refine Off.st ?_ (by decide) _))
    · exact int_eq (by simp; omega)
    · refine (hs7).trans ?_
      exact int_eq (by simp; omega)
    · rw [← hT]; simp [List.append_assoc]
    · simp; omega
    · simp; omega
    · simp; omega
    · simp; omega
    · rw [rot_gt _ _ _ _ _ _ _ _ _ (by omega) (by omega) rfl (by omega)] at ha; exact ha
    · exact hE
    · show _ < _
      simp; omega
   ·have hb9p := of_decide_eq_false hb9
    refine wsr (mV (v := (.slice (some ⟨b, 0, none⟩) (n) (cap))) ((hoff5 0 rfl).trans ((hF2 0).trans (hF0 0))) (mV (v := (.int .i64 (m : Int))) ((hoff5 2 rfl).trans ((hF2 2).trans (hF0 2))) (mV hs6 (rV (r_sub (k := .i64) (a := (m : Int)) (b := ((X.length : Nat) : Int)) (c := ((LA.length + PP.length : Nat) : Int)) rfl rfl ((wi64 (by omega)).trans (by omega))) (mV (v := (.int .i64 (m : Int))) ((hoff5 2 rfl).trans ((hF2 2).trans (hF0 2))) (mV hs7 (rV (r_add (k := .i64) (a := (m : Int)) (b := ((Y.length : Nat) : Int)) (c := (m : Int) + ((Y.length : Nat) : Int)) rfl rfl (wi64 (by omega))) (mV hs6 (rV (r_sub (k := .i64) (a := (m : Int) + ((Y.length : Nat) : Int)) (b := ((X.length : Nat) : Int)) (c := ((LA.length + PP.length + Y.length : Nat) : Int)) rfl rfl ((wi64 (by omega)).trans (by omega))) (mV hs6 (mV (v := fv) ((hoff5 4 rfl).trans ((hF2 4).trans (hF0 4))) ?_)))))))))))
    refine cL ent147 (swapRange_ent (a := LA.length + PP.length) (c := LA.length + PP.length + Y.length) (k := X.length) ha hsz (by omega) (by omega)) rfl ?_
    rintro _ w13 ⟨rfl, ha14, hx15⟩
    replace hE := hE.trans hx15
    replace ha := ha14
    refine RL.nil (wregion (mV hs7 (mV hs6 (rV (r_sub (k := .i64) (a := ((Y.length : Nat) : Int)) (b := ((X.length : Nat) : Int)) (c := ((Y.length : Nat) : Int) - ((X.length : Nat) : Int)) rfl rfl (wi64 (by omega))) (aS (v := (.int .i64 (((Y.length : Nat) : Int) - ((X.length : Nat) : Int)))) rfl (RL.nil ?_))))))
    refine ⟨(Y.drop (Y.length - X.length), Y.take (Y.length - X.length), PP, X ++ SS), ⟨?_, ?_, ?_, ?_, ?_, ?_, ?_, ?_, ?_, ?_⟩, ?_⟩
    · exact (by repeat (first | exact hoff5 | refine Off.st ?_ (by decide) _))
    · refine (hs6).trans ?_
      exact int_eq (by simp; omega)
    · exact int_eq (by simp; omega)
    · rw [← hT]; simp [List.append_assoc]
    · simp; omega
    · simp; omega
    · simp; omega
    · simp; omega
    · rw [rot_lt _ _ _ _ _ _ _ _ _ (by omega) (by omega) rfl (by omega)] at ha; exact ha
    · exact hE
    · show _ < _
      simp; omega
  ·have hb8p := of_decide_eq_false hb8
   refine wexit ?_
   refine wregion (mV (v := (.slice (some ⟨b, 0, none⟩) (n) (cap))) ((hoff5 0 rfl).trans ((hF2 0).trans (hF0 0))) (mV (v := (.int .i64 (m : Int))) ((hoff5 2 rfl).trans ((hF2 2).trans (hF0 2))) (mV hs6 (rV (r_sub (k := .i64) (a := (m : Int)) (b := ((X.length : Nat) : Int)) (c := ((LA.length + PP.length : Nat) : Int)) rfl rfl ((wi64 (by omega)).trans (by omega))) (mV (v := (.int .i64 (((LA.length + PP.length + X.length : Nat) : Int)))) (((hoff5 2 rfl).trans ((hF2 2).trans (hF0 2))).trans (int_eq (by omega))) (mV hs6 (mV (v := fv) ((hoff5 4 rfl).trans ((hF2 4).trans (hF0 4))) ?_)))))))
   refine cL ent147 (swapRange_ent (a := LA.length + PP.length) (c := LA.length + PP.length + X.length) (k := X.length) ha hsz (by omega) (by omega)) rfl ?_
   rintro _ w16 ⟨rfl, ha17, hx18⟩
   replace hE := hE.trans hx18
   replace ha := ha17
   refine RL.nil ?_
   refine ⟨[], trivial, ?_⟩
   have hxy : X.length = Y.length := by omega
   rw [rot_gt _ _ _ _ _ _ _ _ _ (by omega) (by omega) hxy (by omega)] at ha
   rw [List.drop_of_length_le (by omega), List.take_of_length_le (by omega)] at ha
   have e : LA ++ (PP ++ Y) ++ [] ++ X ++ SS ++ LB = LA ++ LV ++ LU ++ LB := by
     have : LA ++ (PP ++ Y) ++ [] ++ X ++ SS ++ LB = LA ++ (PP ++ Y ++ X ++ SS) ++ LB := by simp
     rw [this, hT]; simp
   rw [e] at ha
   exact ⟨rfl, ha, hE⟩
end Go.Proofs.YtffgajgibddfmaaGreat
namespace Go.Proofs.YtffgajgibddfmaaGreat
open Go.Vg Go.RowKit _root_.Go.Proofs.Tryz
set_option linter.unusedVariables false
open Go.Vm
def CmpOk {α : Type} (P : Program) (k : Nat) (cl : List Value) (enc : α → Value) (key : α → Int) (ok : α → Prop) (b : Nat) (w0 : World) : Prop :=
  ∀ w, Exc b w0 w → ∀ x y, ok x → ok y → Calls P k ([enc x, enc y] ++ cl).toArray w fun e w' => ∃ v, e = .returned v ∧ (v = .int .i64 (cmpI (key x) (key y)) ∧ Ext w w')
set_option maxHeartbeats 1000000 in
theorem insertion_ent {post : List Value} {b n cap : Nat} {xs : List EC} {w : World} {kc : Nat} {cl : List Value} {key : EC → Int} {ok : EC → Prop} {w0 : World} (hent : Ent Tryz.prog kc) (hcmp : CmpOk Tryz.prog kc cl encE key ok b w0) (hw0 : Exc b w0 w) {a c : Nat} {LA LS LB : List EC} (ha : Ae post w b 58 xs n) (hsz : n ≤ 4611686018427387903) (hxs : xs = LA ++ LS ++ LB) (h1 : LA.length = a) (h2 : a + LS.length = c) (hok : ∀ x ∈ LS, ok x) :
    Calls Tryz.prog 90 #[(.slice (some ⟨b, 0, none⟩) (n) (cap)), (.int .i64 (a : Int)), (.int .i64 (c : Int)), (.func (.func kc) #[] cl.toArray)] w fun e w' => ∃ v, e = .returned v ∧ v = .tuple #[] ∧ (∃ l, Ae post w' b 58 (LA ++ l ++ LB) n ∧ Srt key l ∧ StE key LS l) ∧ Exc b w w' := by
 have hE : Exc b w w := Exc.of_ext (Ext.refl _)
 have hn : LA.length + LS.length + LB.length = n := by have := ha.len; rw [hxs] at this; simp at this; omega
 refine calls_of (n := 53) (rs := []) func90 rfl rfl rfl (Nat.le_of_ble_eq_true rfl) ?_
 refine wset fun F0 hF0 => ?_
 refine wsr (mV (v := (.int .i64 (a : Int))) (hF0 1) (rV (r_add (k := .i64) (a := (a : Int)) (b := 1) (c := ((a + 1 : Nat) : Int)) rfl rfl ((wi64 (by omega)).trans (by omega))) (aS (v := (.int .i64 (((a + 1 : Nat) : Int)))) rfl (RL.nil ?_))))
 refine wblock ?_
 refine wset fun F1 hF2 => ?_
 refine wloop (σ := Nat × List EC) (fun (s : Nat × List EC) fl wl => match s with | (k, S) => Off [8, 9, 12, 13, 14, 15, 16, 17, 18, 19, 20, 21, 22, 23, 24, 25, 26, 27, 28, 29, 30, 31, 32, 33, 34, 35, 36, 37, 38, 39, 40, 41, 42, 43, 44, 45, 46, 47, 48, 49, 50, 51, 52] F1 fl ∧ fl 8 = (.int .i64 (((a + k : Nat) : Int))) ∧ (1 ≤ k) ∧ (k ≤ max 1 LS.length) ∧ (S.length = min k LS.length) ∧ (Srt key S) ∧ (StE key (LS.take k) S) ∧ (Ae post wl b 58 (LA ++ S ++ LS.drop k ++ LB) n) ∧ (Exc b w wl)) (fun (s : Nat × List EC) => match s with | (k, S) => LS.length - k) (1, LS.take 1) ?_ ?_
 ·exact ⟨Off.refl _ _, (hF2 8).trans (rfl), Nat.le_refl _, Nat.le_max_left _ _, by simp, (by match LS with | [] => exact Srt.nil _ | x :: t => exact Srt.one _ x), StE.refl _ _, (by rw [hxs] at ha; rw [List.append_assoc LA, List.take_append_drop]; exact ha), hE⟩
 ·clear ha hE
  rintro ⟨k, S⟩ f3 w4 ⟨hoff5, hs6, hk1, hk2, hSl, hSrt, hSt, ha, hE⟩
  refine wseq (wsr (mV hs6 (mV (v := (.int .i64 (c : Int))) ((hoff5 2 rfl).trans ((hF2 2).trans (hF0 2))) (rV (r_lss (k := .i64) (a := ((a + k : Nat) : Int)) (b := (c : Int)) rfl rfl) (RL.nil ?_)))))
  refine wcond (b := decide (((a + k : Nat) : Int) < (c : Int))) rfl (fun hb7 => ?_) (fun hb7 => ?_)
  ·have hb7p := of_decide_eq_true hb7
   refine wskip ?_
   refine wseq ?_
   refine wblock ?_
   refine wseq ?_
   have hkl : k < LS.length := by omega
   obtain ⟨x, hx⟩ : ∃ x, x = LS.getD k default := ⟨_, rfl⟩
   have hxin : x ∈ LS := by rw [hx]; simp [hkl]
   have hSk : S.length = k := by rw [hSl]; omega
   have hSin : ∀ y ∈ S, y ∈ LS := fun y hy => List.mem_of_mem_take (hSt.symm.mem hy)
   refine wregion (mV hs6 (aS (v := (.int .i64 (((a + k : Nat) : Int)))) rfl (RL.nil ?_)))
   refine wblock ?_
   refine wset fun F8 hF9 => ?_
   refine wloop (σ := List EC × List EC) (fun (s : List EC × List EC) fl wl => match s with | (S1, S2) => Off [9, 18, 19, 20, 21, 22, 23, 24, 25, 26, 27, 28, 29, 30, 31, 32, 33, 34, 35, 36, 37, 38, 39, 40, 41, 42, 43, 44, 45, 46, 47, 48, 49, 50, 51, 52] F8 fl ∧ fl 9 = (.int .i64 (((a + S1.length : Nat) : Int))) ∧ (S = S1 ++ S2) ∧ (∀ y ∈ S2, key x < key y) ∧ (Ae post wl b 58 (LA ++ S1 ++ x :: S2 ++ LS.drop (k + 1) ++ LB) n) ∧ (Exc b w wl)) (fun (s : List EC × List EC) => match s with | (S1, S2) => S1.length) (S, []) ?_ ?_
   ·exact ⟨Off.refl _ _, (hF9 9).trans ((int_eq (by simp [hSl]; omega))), by simp, by simp, (by rw [drop_cons LS k hkl, ← hx] at ha; simpa using ha), hE⟩
   ·clear ha hE
    rintro ⟨S1, S2⟩ f10 w11 ⟨hoff12, hs13, hSS, hlt, ha, hE⟩
    have hSSl : S1.length + S2.length = S.length := by rw [hSS]; simp
    refine wseq (wseq ?_)
    refine wdraw mixed fun w14 he15 => ?_
    have he15z := he15.size
    replace ha := ha.ext he15
    replace hE := hE.trans (Exc.of_ext he15)
    refine ra 0 rfl (fun _ => r_move_as (v := (.int .i64 (((a + S1.length : Nat) : Int)))) hs13) ?_
    refine ra 1 rfl (fun _ => r_move_as (v := (.int .i64 (a : Int))) ((hoff12 1 rfl).trans ((hF9 1).trans ((hoff5 1 rfl).trans ((hF2 1).trans (hF0 1)))))) ?_
    refine ra 2 rfl (fun _ => r_gtr (k := .i64) (a := ((a + S1.length : Nat) : Int)) (b := (a : Int)) rfl rfl) ?_
    refine ra 3 rfl (fun _ => r_move_as (v := (.bool (decide ((a : Int) < ((a + S1.length : Nat) : Int))))) rfl) ?_
    rcases Bool.eq_false_or_eq_true (decide ((a : Int) < ((a + S1.length : Nat) : Int))) with hb16 | hb16
    ·have hb16p := of_decide_eq_true hb16
     obtain ⟨S3, y, hS1⟩ := snoc_of S1 (by omega)
     have hS1l : S1.length = S3.length + 1 := by rw [hS1]; simp
     refine RA.gtake 4 rfl (by kernel_rfl) rfl rfl (bool_eq hb16) rfl (by decide) (fun _ => r_move_as (v := (.func (.func kc) #[] cl.toArray)) ((hoff12 3 rfl).trans ((hF9 3).trans ((hoff5 3 rfl).trans ((hF2 3).trans (hF0 3)))))) ?_
     refine RA.gtake 5 rfl (by kernel_rfl) rfl rfl (bool_eq hb16) rfl (by decide) (fun _ => r_move_as (v := (.slice (some ⟨b, 0, none⟩) (n) (cap))) ((hoff12 0 rfl).trans ((hF9 0).trans ((hoff5 0 rfl).trans ((hF2 0).trans (hF0 0)))))) ?_
     refine RA.gtake 6 rfl (by kernel_rfl) rfl rfl (bool_eq hb16) rfl (by decide) (fun _ => r_move_as (v := (.int .i64 (((a + S1.length : Nat) : Int)))) hs13) ?_
     refine RA.gtake 7 rfl (by kernel_rfl) rfl rfl (bool_eq hb16) rfl (by decide) (fun _ => r_indexAddr (i := ((a + S1.length : Nat) : Int)) underlying22 ty58 rfl rfl (by omega) (by omega)) ?_
     have hc17 := ha.cell (i := ((a + S1.length : Nat) : Int)) (a + S1.length) (by omega) (by omega)
     rw [show (LA ++ S1 ++ x :: S2 ++ LS.drop (k + 1) ++ LB).getD (a + S1.length) default = x from (by rw [show (LA ++ S1 ++ x :: S2 ++ LS.drop (k + 1) ++ LB) = (LA ++ S1) ++ x :: (S2 ++ LS.drop (k + 1) ++ LB) from by simp]; exact getD_mid _ _ _ _ (by simp [h1]))] at hc17
     refine RA.grd 8 rfl (by kernel_rfl) rfl rfl rfl (bool_eq hb16) rfl (by decide) (Ext.refl _) (fun u hu => r_loada (cs := entC x) underlying58 ag58 ty58 rfl (fun j v hj => cell_ext hu (hc17 j v hj))) ?_
     refine RA.gtake 9 rfl (by kernel_rfl) rfl rfl (bool_eq hb16) rfl (by decide) (fun _ => r_move_as (v := (.slice (some ⟨b, 0, none⟩) (n) (cap))) ((hoff12 0 rfl).trans ((hF9 0).trans ((hoff5 0 rfl).trans ((hF2 0).trans (hF0 0)))))) ?_
     refine RA.gtake 10 rfl (by kernel_rfl) rfl rfl (bool_eq hb16) rfl (by decide) (fun _ => r_move_as (v := (.int .i64 (((a + S1.length : Nat) : Int)))) hs13) ?_
     refine RA.gtake 11 rfl (by kernel_rfl) rfl rfl (bool_eq hb16) rfl (by decide) (fun _ => r_sub (k := .i64) (a := ((a + S1.length : Nat) : Int)) (b := 1) (c := ((a + S1.length - 1 : Nat) : Int)) rfl rfl ((wi64 (by omega)).trans (by omega))) ?_
     refine RA.gtake 12 rfl (by kernel_rfl) rfl rfl (bool_eq hb16) rfl (by decide) (fun _ => r_indexAddr (i := ((a + S1.length - 1 : Nat) : Int)) underlying22 ty58 rfl rfl (by omega) (by omega)) ?_
     have hc18 := ha.cell (i := ((a + S1.length - 1 : Nat) : Int)) (a + S1.length - 1) (by omega) (by omega)
     rw [show (LA ++ S1 ++ x :: S2 ++ LS.drop (k + 1) ++ LB).getD (a + S1.length - 1) default = y from (by rw [show (LA ++ S1 ++ x :: S2 ++ LS.drop (k + 1) ++ LB) = (LA ++ S3) ++ y :: (x :: S2 ++ LS.drop (k + 1) ++ LB) from by simp [hS1]]; exact getD_mid _ _ _ _ (by simp [hS1, h1]))] at hc18
     refine RA.grd 13 rfl (by kernel_rfl) rfl rfl rfl (bool_eq hb16) rfl (by decide) (Ext.refl _) (fun u hu => r_loada (cs := entC y) underlying58 ag58 ty58 rfl (fun j v hj => cell_ext hu (hc18 j v hj))) ?_
     refine RA.all [14] (by kernel_rfl) rfl ?_
     refine RS.gcall rfl rfl rfl (bool_eq hb16) rfl (by decide) (r_callv (vl := [(encE x), (encE y)]) (cl := cl) rfl hent rfl) (hcmp _ (hw0.trans hE) (x) (y) (hok _ hxin) (hok _ (hSin y (by rw [hSS, hS1]; simp)))) ?_ RS.nil
     rintro _ w19 ⟨rfl, he20⟩
     refine rm he20 ?_
     replace ha := ha.ext he20
     replace hE := hE.trans (Exc.of_ext he20)
     refine RA.gtake 15 rfl (by kernel_rfl) rfl rfl (bool_eq hb16) rfl (by decide) (fun _ => r_lss (k := .i64) (a := cmpI (key x) (key y)) (b := 0) rfl rfl) ?_
     refine ra 16 rfl (fun _ => r_pick_t (v := (.bool (decide ((cmpI (key x) (key y)) < 0)))) (bool_eq hb16) rfl) ?_
     refine RA.done (by kernel_rfl) ?_
     refine wcond (b := decide ((cmpI (key x) (key y)) < 0)) rfl (fun hb21 => ?_) (fun hb21 => ?_)
     ·have hb21p := of_decide_eq_true hb21
      have hxy : key x < key y := by unfold cmpI at hb21p; (repeat split at hb21p) <;> omega
      refine wskip ?_
      refine wseq ?_
      refine wblock ?_
      refine wdraw mixed fun w22 he23 => ?_
      have he23z := he23.size
      replace ha := ha.ext he23
      replace hE := hE.trans (Exc.of_ext he23)
      refine ra 0 rfl (fun _ => r_move_as (v := (.slice (some ⟨b, 0, none⟩) (n) (cap))) ((hoff12 0 rfl).trans ((hF9 0).trans ((hoff5 0 rfl).trans ((hF2 0).trans (hF0 0)))))) ?_
      refine ra 1 rfl (fun _ => r_move_as (v := (.int .i64 (((a + S1.length : Nat) : Int)))) hs13) ?_
      refine ra 2 rfl (fun _ => r_move_as (v := (.slice (some ⟨b, 0, none⟩) (n) (cap))) ((hoff12 0 rfl).trans ((hF9 0).trans ((hoff5 0 rfl).trans ((hF2 0).trans (hF0 0)))))) ?_
      refine ra 3 rfl (fun _ => r_move_as (v := (.int .i64 (((a + S1.length : Nat) : Int)))) hs13) ?_
      refine ra 4 rfl (fun _ => r_sub (k := .i64) (a := ((a + S1.length : Nat) : Int)) (b := 1) (c := ((a + S1.length - 1 : Nat) : Int)) rfl rfl ((wi64 (by omega)).trans (by omega))) ?_
      refine ra 5 rfl (fun _ => r_move_as (v := (.slice (some ⟨b, 0, none⟩) (n) (cap))) ((hoff12 0 rfl).trans ((hF9 0).trans ((hoff5 0 rfl).trans ((hF2 0).trans (hF0 0)))))) ?_
      refine ra 6 rfl (fun _ => r_move_as (v := (.int .i64 (((a + S1.length : Nat) : Int)))) hs13) ?_
      refine ra 7 rfl (fun _ => r_sub (k := .i64) (a := ((a + S1.length : Nat) : Int)) (b := 1) (c := ((a + S1.length - 1 : Nat) : Int)) rfl rfl ((wi64 (by omega)).trans (by omega))) ?_
      refine ra 8 rfl (fun _ => r_indexAddr (i := ((a + S1.length - 1 : Nat) : Int)) underlying22 ty58 rfl rfl (by omega) (by omega)) ?_
      have hc24 := ha.cell (i := ((a + S1.length - 1 : Nat) : Int)) (a + S1.length - 1) (by omega) (by omega)
      rw [show (LA ++ S1 ++ x :: S2 ++ LS.drop (k + 1) ++ LB).getD (a + S1.length - 1) default = y from (by rw [show (LA ++ S1 ++ x :: S2 ++ LS.drop (k + 1) ++ LB) = (LA ++ S3) ++ y :: (x :: S2 ++ LS.drop (k + 1) ++ LB) from by simp [hS1]]; exact getD_mid _ _ _ _ (by simp [hS1, h1]))] at hc24
      refine RA.rd 9 rfl (by kernel_rfl) rfl rfl rfl (by decide) (Ext.refl _) (fun u hu => r_loada (cs := entC y) underlying58 ag58 ty58 rfl (fun j v hj => cell_ext hu (hc24 j v hj))) ?_
      refine ra 10 rfl (fun _ => r_move_as (v := (.slice (some ⟨b, 0, none⟩) (n) (cap))) ((hoff12 0 rfl).trans ((hF9 0).trans ((hoff5 0 rfl).trans ((hF2 0).trans (hF0 0)))))) ?_
      refine ra 11 rfl (fun _ => r_move_as (v := (.int .i64 (((a + S1.length : Nat) : Int)))) hs13) ?_
      refine ra 12 rfl (fun _ => r_indexAddr (i := ((a + S1.length : Nat) : Int)) underlying22 ty58 rfl rfl (by omega) (by omega)) ?_
      have hc25 := ha.cell (i := ((a + S1.length : Nat) : Int)) (a + S1.length) (by omega) (by omega)
      rw [show (LA ++ S1 ++ x :: S2 ++ LS.drop (k + 1) ++ LB).getD (a + S1.length) default = x from (by rw [show (LA ++ S1 ++ x :: S2 ++ LS.drop (k + 1) ++ LB) = (LA ++ S1) ++ x :: (S2 ++ LS.drop (k + 1) ++ LB) from by simp]; exact getD_mid _ _ _ _ (by simp [h1]))] at hc25
      refine RA.rd 13 rfl (by kernel_rfl) rfl rfl rfl (by decide) (Ext.refl _) (fun u hu => r_loada (cs := entC x) underlying58 ag58 ty58 rfl (fun j v hj => cell_ext hu (hc25 j v hj))) ?_
      refine ra 14 rfl (fun _ => r_indexAddr (i := ((a + S1.length : Nat) : Int)) underlying22 ty58 rfl rfl (by omega) (by omega)) ?_
      refine RA.all [15] (by kernel_rfl) rfl ?_
      refine RS.runs rfl rfl rfl (h_setE (u := y) (i := ((a + S1.length : Nat) : Int)) ty58 rfl rfl rfl ha (a + S1.length) (by omega) (by omega)) ?_ RS.nil
      rintro w26 ⟨ha27, hx28⟩
      refine ⟨.inr (.inl (by kernel_rfl)), ?_⟩
      have hx28z := hx28.size
      replace hE := hE.trans hx28
      replace ha := ha27
      refine ra 16 rfl (fun _ => r_indexAddr (i := ((a + S1.length - 1 : Nat) : Int)) underlying22 ty58 rfl rfl (by omega) (by omega)) ?_
      refine RA.all [17] (by kernel_rfl) rfl ?_
      refine RS.runs rfl rfl rfl (h_setE (u := x) (i := ((a + S1.length - 1 : Nat) : Int)) ty58 rfl rfl rfl ha (a + S1.length - 1) (by omega) (by omega)) ?_ RS.nil
      rintro w29 ⟨ha30, hx31⟩
      refine ⟨.inr (.inl (by kernel_rfl)), ?_⟩
      have hx31z := hx31.size
      replace hE := hE.trans hx31
      replace ha := ha30
      refine RA.done (by kernel_rfl) ?_
      refine wregion (mV hs13 (rV (r_sub (k := .i64) (a := ((a + S1.length : Nat) : Int)) (b := 1) (c := ((a + S1.length : Nat) : Int) - 1) rfl rfl (wi64 (by omega))) (aS (v := (.int .i64 (((a + S1.length : Nat) : Int) - 1))) rfl (RL.nil ?_))))
      refine ⟨(S3, y :: S2), ⟨?_, ?_, ?_, ?_, ?_, ?_⟩, ?_⟩
      · exact (by repeat (first | exact hoff12 | refine Off.st ?_ (by decide) _ | refine Off.via hoff5 (by decide) ?_ | refine Off.eq hF2 ?_))
      · exact int_eq (by rw [hS1]; simp; omega)
      · rw [hSS, hS1]; simp
      · intro z hz; rcases List.mem_cons.1 hz with rfl | hz; exact hxy; exact hlt z hz
      · rw [show (LA ++ S1 ++ x :: S2 ++ LS.drop (k + 1) ++ LB) = (LA ++ S3) ++ y :: x :: (S2 ++ LS.drop (k + 1) ++ LB) from by rw [hS1]; simp, set2 _ _ _ _ _ _ _ _ (by rw [hS1]; simp; omega) (by rw [hS1]; simp; omega)] at ha; simpa using ha
      · exact hE
      · show _ < _
        rw [hS1]; simp
     ·have hb21p := of_decide_eq_false hb21
      have hfin : S1 = [] ∨ ∃ S3 y, S1 = S3 ++ [y] ∧ key y ≤ key x := .inr ⟨S3, y, hS1, by unfold cmpI at hb21p; (repeat split at hb21p) <;> omega⟩
      refine wexit ?_
      refine wregion (mV (v := (.int .i64 (((a + k : Nat) : Int)))) ((hoff12 8 rfl).trans ((hF9 8).trans hs6)) (rV (r_add (k := .i64) (a := ((a + k : Nat) : Int)) (b := 1) (c := ((a + k : Nat) : Int) + 1) rfl rfl (wi64 (by omega))) (aS (v := (.int .i64 (((a + k : Nat) : Int) + 1))) rfl (RL.nil ?_))))
      refine ⟨(k + 1, S1 ++ x :: S2), ⟨?_, ?_, ?_, ?_, ?_, ?_, ?_, ?_, ?_⟩, ?_⟩
      · exact (by repeat (first | exact hoff5 | refine Off.st ?_ (by decide) _ | refine Off.via hoff12 (by decide) ?_ | refine Off.eq hF9 ?_))
      · exact int_eq (by omega)
      · omega
      · omega
      · simp; omega
      · exact ins_srt (hSS ▸ hSrt) hlt hfin
      · rw [take_snoc LS k hkl, ← hx]; exact (StE.append (hSS ▸ hSt) (StE.refl _ [x])).trans (ins_ste hlt)
      · simpa using ha
      · exact hE
      · (try dsimp only)
        omega
    ·have hb16p := of_decide_eq_false hb16
     have hfin : S1 = [] ∨ ∃ S3 y, S1 = S3 ++ [y] ∧ key y ≤ key x := .inl (List.eq_nil_of_length_eq_zero (by omega))
     refine RA.gno 4 rfl (by kernel_rfl) rfl rfl (.inl (bool_eq hb16)) rfl (by decide) ?_
     refine RA.gno 5 rfl (by kernel_rfl) rfl rfl (.inl (bool_eq hb16)) rfl (by decide) ?_
     refine RA.gno 6 rfl (by kernel_rfl) rfl rfl (.inl (bool_eq hb16)) rfl (by decide) ?_
     refine RA.gno 7 rfl (by kernel_rfl) rfl rfl (.inl (bool_eq hb16)) rfl (by decide) ?_
     refine RA.gno 8 rfl (by kernel_rfl) rfl rfl (.inl (bool_eq hb16)) rfl (by decide) ?_
     refine RA.gno 9 rfl (by kernel_rfl) rfl rfl (.inl (bool_eq hb16)) rfl (by decide) ?_
     refine RA.gno 10 rfl (by kernel_rfl) rfl rfl (.inl (bool_eq hb16)) rfl (by decide) ?_
     refine RA.gno 11 rfl (by kernel_rfl) rfl rfl (.inl (bool_eq hb16)) rfl (by decide) ?_
     refine RA.gno 12 rfl (by kernel_rfl) rfl rfl (.inl (bool_eq hb16)) rfl (by decide) ?_
     refine RA.gno 13 rfl (by kernel_rfl) rfl rfl (.inl (bool_eq hb16)) rfl (by decide) ?_
     refine RA.all [14] (by kernel_rfl) rfl ?_
     refine RS.gno rfl rfl rfl (.inl (bool_eq hb16)) rfl (by decide) (.inr (.inl (by kernel_rfl))) ?_ RS.nil
     refine RA.gno 15 rfl (by kernel_rfl) rfl rfl (.inl (bool_eq hb16)) rfl (by decide) ?_
     refine ra 16 rfl (fun _ => r_pick_f (v := (.bool false)) (bool_eq hb16) rfl) ?_
     refine RA.done (by kernel_rfl) ?_
     refine wcond_f rfl ?_
     refine wexit ?_
     refine wregion (mV (v := (.int .i64 (((a + k : Nat) : Int)))) ((hoff12 8 rfl).trans ((hF9 8).trans hs6)) (rV (r_add (k := .i64) (a := ((a + k : Nat) : Int)) (b := 1) (c := ((a + k : Nat) : Int) + 1) rfl rfl (wi64 (by omega))) (aS (v := (.int .i64 (((a + k : Nat) : Int) + 1))) rfl (RL.nil ?_))))
     refine ⟨(k + 1, S1 ++ x :: S2), ⟨?_, ?_, ?_, ?_, ?_, ?_, ?_, ?_, ?_⟩, ?_⟩
     · exact (by repeat (first | exact hoff5 | refine Off.st ?_ (by decide) _ | refine Off.via hoff12 (by decide) ?_ | refine Off.eq hF9 ?_))
     · exact int_eq (by omega)
     · omega
     · omega
     · simp; omega
     · exact ins_srt (hSS ▸ hSrt) hlt hfin
     · rw [take_snoc LS k hkl, ← hx]; exact (StE.append (hSS ▸ hSt) (StE.refl _ [x])).trans (ins_ste hlt)
     · simpa using ha
     · exact hE
     · (try dsimp only)
       omega
  ·have hb7p := of_decide_eq_false hb7
   refine wexit ?_
   refine ⟨[], trivial, ?_⟩
   have hkk : LS.length ≤ k := by omega
   rw [List.drop_of_length_le hkk] at ha
   rw [List.take_of_length_le hkk] at hSt
   exact ⟨rfl, ⟨S, by simpa using ha, hSrt, hSt⟩, hE⟩
end Go.Proofs.YtffgajgibddfmaaGreat
