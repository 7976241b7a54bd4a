/- VectorRepresentation, second form: for arguments of bulk at most 1048576 the law returns true and the arguments read as before; no other condition. Part 7 of 8: Vd Ve Vf Xa Vgs Xb Xc Nm Ew Xd Xe Xf Vgt Xg Xh Zo. -/
import Derived.Test.YtffgajgibddfmaaGreatRows
import Derived.Deep.SlicePairs
import Derived.Test.YtffgajgibddfmaaGreatP6
set_option linter.unusedVariables false
set_option linter.unusedSimpArgs false
namespace Go.Proofs.YtffgajgibddfmaaGreat
open Go.Vg Go.RowKit _root_.Go.Proofs.Tryz
set_option linter.unusedVariables false
open Go.Vm
theorem j_true {TU B : Nat} : JOk TU B (fun _ _ => True) := ⟨fun _ _ _ _ _ => trivial, fun _ _ _ _ _ _ _ _ => trivial⟩
set_option maxHeartbeats 1000000 in
theorem v_norm1 {w : World} {sx : Bool} {Dx Ex : Nat → TypeId → Prop} {vx ux : Value} {x dx : List Nat} (hx : Sg (gN .u32) Dx w vx x) (lmx : Lm x) (lnx : x.length ≤ 17179869184) (hdx : Sg (gN .u32) Ex w ux dx) (lmdx : Lm dx) (lndx : dx.length ≤ 17179869184) {qx : Rat} (ex : ratOf sx (val x) (val dx) = qx) {sy : Bool} {Dy Ey : Nat → TypeId → Prop} {vy uy : Value} {y dy : List Nat} (hy : Sg (gN .u32) Dy w vy y) (lmy : Lm y) (lny : y.length ≤ 17179869184) (hdy : Sg (gN .u32) Ey w uy dy) (lmdy : Lm dy) (lndy : dy.length ≤ 17179869184) {qy : Rat} (ey : ratOf sy (val y) (val dy) = qy) :
    Calls Tryz.prog 59 #[(.agg #[(.bool sx), vx, ux]), (.agg #[(.bool sy), vy, uy])] w fun e w' => ∃ v, e = .returned v ∧ (∃ vn vd, v = .agg #[.bool (decide (qx.num < 0)), vn, vd] ∧ Sg (gN .u32) (fun b T => w.heap.size ≤ b ∧ T = 96) w' vn (digs qx.num.natAbs) ∧ Sg (gN .u32) (fun b T => w.heap.size ≤ b ∧ T = 96) w' vd (digs qx.den) ∧ (digs qx.num.natAbs).length ≤ x.length ∧ (digs qx.den).length ≤ dx.length + 1) ∧ Ext w w' := by
 have hE : Below w.heap.size w w := Below.refl _ _
 have hlqx := rl_of lmx lmdx ex
 have hdqx := den_one qx
 have hlqy := rl_of lmy lmdy ey
 have hdqy := den_one qy
 refine calls_of (n := 7) (rs := [.cell 4 44]) func59 rfl rfl rfl (Nat.le_of_ble_eq_true rfl) ?_
 refine wset fun F0 hF0 => ?_
 refine wsr ?_
 refine rU (h_box (vv := (.agg #[(.bool sx), vx, ux])) (cs := [(.bool sx), vx, ux]) (hF0 0) rfl) ?_
 rintro _ w1 ⟨b2, rfl, hs5, hb4, he3⟩
 have ge_b2 := hE.ge hs5
 replace hE := hE.nx he3
 refine rU (h_box (vv := (.agg #[(.bool sy), vy, uy])) (cs := [(.bool sy), vy, uy]) (hF0 1) rfl) ?_
 rintro _ w6 ⟨b7, rfl, hs10, hb9, he8⟩
 have lt_b2_b7 := Nat.lt_of_lt_of_eq hb4.lt hs10.symm
 have ge_b7 := hE.ge hs10
 replace hE := hE.nx he8
 refine rU (h_alloc (cs := [(.bool false), (.slice none 0 0), (.slice none 0 0)]) ty44 rfl) ?_
 rintro _ w11 ⟨b12, rfl, hs15, hb14, he13⟩
 have lt_b7_b12 := Nat.lt_of_lt_of_eq hb9.lt hs15.symm
 have ge_b12 := hE.ge hs15
 replace hE := hE.nx he13
 refine RL.nil (wsr ?_)
 replace hb4 := hb4.ext (Ext.trans he8 he13)
 have hc16 := hb4.cells (o := 0) (cs := [(.bool sx), vx, ux]) rfl
 refine rV (r_loada (o := 0) (cs := [(.bool sx), vx, ux]) underlying44 ag44 ty44 rfl hc16) ?_
 have hm25 := Ext.trans he3 (Ext.trans he8 he13)
 replace hx := hx.tr (Sm.ext hm25)
 replace hdx := hdx.tr (Sm.ext hm25)
 refine RL.call rfl rfl (by decide) (r_call (vl := [(.agg #[(.bool sx), vx, ux])]) ent45 rfl) (q_norm hx (by assumption) (by first | omega | simp) hdx (by assumption) (by first | omega | simp) (show ratOf sx (val x) (val dx) = qx from ex)) ?_
 rintro _ w17 ⟨⟨vn19, vd21, rfl, hn20, hd22, hl23, hl24⟩, he18⟩
 have hlv26 := den_one qx
 replace hn20 := hn20.fr hE
 replace hd22 := hd22.fr hE
 replace hE := hE.nx he18
 replace hb14 := hb14.ext he18
 refine RL.runs rfl rfl (h_store (vv := (.agg #[(.bool (decide (qx.num < 0))), vn19, vd21])) (cs := [(.bool (decide (qx.num < 0))), vn19, vd21]) (o := 0) ty44 rfl rfl rfl rfl (one_cons rfl (one_cons hn20.one (one_cons hd22.one one_nil))) hb14 (Nat.le_of_ble_eq_true rfl)) ?_
 rintro w27 ⟨hn28, hx29, hz30⟩
 replace hE := hE.nb hx29 ge_b12
 have nb_hx29 := (Nb.of hb14 (nu_cons rfl (nu_cons rfl (nu_cons rfl nu_nil))))
 replace hb14 : Bk w27 b12 44 [(.bool (decide (qx.num < 0))), vn19, vd21] := hn28
 refine RL.nil ?_
 refine wret ?_
 refine ⟨[(.agg #[(.bool (decide (qx.num < 0))), vn19, vd21])], ⟨⟨_, _, [(.bool (decide (qx.num < 0))), vn19, vd21], rfl, ⟨_, underlying44⟩, hb14.cells rfl, .inl ⟨ag44, ⟨_, _, ty44⟩, rfl⟩⟩, trivial⟩, ?_⟩
 replace hn20 := hn20.apn hx29 nb_hx29
 replace hd22 := hd22.apn hx29 nb_hx29
 exact ⟨⟨_, _, rfl, hn20, hd22, by omega, by omega⟩, hE⟩
theorem op_norm {K L : Nat} (hL : L ≤ 8589934000) : OpOk Tryz.prog 59 [] none K L (L + 1) (fun p _ => p) (fun _ _ => True) := fun _ _ h1 m1 l1 g1 n1 k1 e1 h2 m2 l2 g2 n2 k2 e2 =>
  (v_norm1 h1 m1 (by omega) g1 n1 (by omega) e1 h2 m2 (by omega) g2 n2 (by omega) e2).mono fun _ _ ⟨v, he, ⟨vn, vd, hv, a, b, c, d⟩, hE⟩ =>
    ⟨v, he, ⟨_, vn, vd, _, _, hv, a, digs_lm _, by omega, b, digs_lm _, by omega, ratOf_canon _, fun _ => ⟨rfl, rfl, rfl⟩⟩, trivial, Gro.of_ext hE⟩
set_option maxHeartbeats 4000000 in
theorem v_ads1 {w : World} {sx : Bool} {Dx Ex : Nat → TypeId → Prop} {vx ux : Value} {x dx : List Nat} (hx : Sg (gN .u32) Dx w vx x) (lmx : Lm x) (lnx : x.length ≤ 4294967296) (hdx : Sg (gN .u32) Ex w ux dx) (lmdx : Lm dx) (lndx : dx.length ≤ 4294967296) {qx : Rat} (ex : ratOf sx (val x) (val dx) = qx) {sy : Bool} {Dy Ey : Nat → TypeId → Prop} {vy uy : Value} {y dy : List Nat} (hy : Sg (gN .u32) Dy w vy y) (lmy : Lm y) (lny : y.length ≤ 4294967296) (hdy : Sg (gN .u32) Ey w uy dy) (lmdy : Lm dy) (lndy : dy.length ≤ 4294967296) {qy : Rat} (ey : ratOf sy (val y) (val dy) = qy) {bf : Nat} {sf : Bool} {Df : Nat → TypeId → Prop} {vf uf : Value} {f df : List Nat} (hbf : Bk w bf 44 [.bool sf, vf, uf]) (hf : Sg (gN .u32) Df w vf f) (lmf : Lm f) (lnf : f.length ≤ 4294967296) (hdf : Sg (gN .u32) Df w uf df) (lmdf : Lm df) (lndf : df.length ≤ 4294967296) {qf : Rat} (ef : ratOf sf (val f) (val df) = qf) :
    Calls Tryz.prog 55 #[(.agg #[(.bool sx), vx, ux]), (.agg #[(.bool sy), vy, uy]), (.pointer (some ⟨bf, 0, none⟩))] w fun e w' => ∃ v, e = .returned v ∧ (∃ vn vd, v = .agg #[.bool (decide ((qx + qf * qy).num < 0)), vn, vd] ∧ Sg (gN .u32) (fun b T => w.heap.size ≤ b ∧ T = 96) w' vn (digs (qx + qf * qy).num.natAbs) ∧ Sg (gN .u32) (fun b T => w.heap.size ≤ b ∧ T = 96) w' vd (digs (qx + qf * qy).den) ∧ (digs (qx + qf * qy).num.natAbs).length ≤ max (x.length + (df.length + dy.length + 2)) (f.length + y.length + dx.length) + 2 ∧ (digs (qx + qf * qy).den).length ≤ dx.length + (df.length + dy.length + 2) + 3) ∧ Ext w w' := by
 have hE : Below w.heap.size w w := Below.refl _ _
 have hlqx := rl_of lmx lmdx ex
 have hdqx := den_one qx
 have hlqy := rl_of lmy lmdy ey
 have hdqy := den_one qy
 refine calls_of (n := 16) (rs := [.cell 5 44]) func55 rfl rfl rfl (Nat.le_of_ble_eq_true rfl) ?_
 refine wset fun F0 hF0 => ?_
 refine wsr ?_
 refine rU (h_box (vv := (.agg #[(.bool sx), vx, ux])) (cs := [(.bool sx), vx, ux]) (hF0 0) rfl) ?_
 rintro _ w1 ⟨b2, rfl, hs5, hb4, he3⟩
 have ge_b2 := hE.ge hs5
 replace hE := hE.nx he3
 refine rU (h_box (vv := (.agg #[(.bool sy), vy, uy])) (cs := [(.bool sy), vy, uy]) (hF0 1) rfl) ?_
 rintro _ w6 ⟨b7, rfl, hs10, hb9, he8⟩
 have lt_b2_b7 := Nat.lt_of_lt_of_eq hb4.lt hs10.symm
 have ge_b7 := hE.ge hs10
 replace hE := hE.nx he8
 refine rU (h_alloc (cs := [(.bool false), (.slice none 0 0), (.slice none 0 0)]) ty44 rfl) ?_
 rintro _ w11 ⟨b12, rfl, hs15, hb14, he13⟩
 have lt_b7_b12 := Nat.lt_of_lt_of_eq hb9.lt hs15.symm
 have ge_b12 := hE.ge hs15
 replace hE := hE.nx he13
 refine RL.nil (wseq (wsr ?_))
 replace hb9 := hb9.ext he13
 have hc16 := hb9.cells (o := 0) (cs := [(.bool sy), vy, uy]) rfl
 refine rV (r_loada (o := 0) (cs := [(.bool sy), vy, uy]) underlying44 ag44 ty44 rfl hc16) ?_
 have hm19 := Ext.trans he3 (Ext.trans he8 he13)
 replace hy := hy.tr (Sm.ext hm19)
 replace hdy := hdy.tr (Sm.ext hm19)
 refine RL.call rfl rfl (by decide) (r_call (vl := [(.agg #[(.bool sy), vy, uy])]) ent44 rfl) (q_sign hy (by assumption) (by first | omega | simp) hdy (by assumption) (by first | omega | simp) (show ratOf sy (val y) (val dy) = qy from ey)) ?_
 rintro _ w17 ⟨rfl, he18⟩
 replace hE := hE.nx he18
 refine rV (r_eql (k := .i64) (a := Int.sign qy.num) (b := 0) rfl rfl) (RL.nil ?_)
 refine wcond (b := decide ((Int.sign qy.num) = 0)) rfl (fun hb20 => ?_) (fun hb20 => ?_)
 ·have hb20p := of_decide_eq_true hb20
  have hy0 : qy = 0 := (sign_eq qy).1 hb20p
  refine wsr ?_
  have hm22 := Ext.trans he8 (Ext.trans he13 he18)
  replace hb4 := hb4.ext hm22
  have hc21 := hb4.cells (o := 0) (cs := [(.bool sx), vx, ux]) rfl
  refine rV (r_loada (o := 0) (cs := [(.bool sx), vx, ux]) underlying44 ag44 ty44 rfl hc21) ?_
  have hm31 := Ext.trans hm19 he18
  replace hx := hx.tr (Sm.ext hm31)
  replace hdx := hdx.tr (Sm.ext hm31)
  refine RL.call rfl rfl (by decide) (r_call (vl := [(.agg #[(.bool sx), vx, ux])]) ent45 rfl) (q_norm hx (by assumption) (by first | omega | simp) hdx (by assumption) (by first | omega | simp) (show ratOf sx (val x) (val dx) = qx from ex)) ?_
  rintro _ w23 ⟨⟨vn25, vd27, rfl, hn26, hd28, hl29, hl30⟩, he24⟩
  have hlv32 := den_one qx
  replace hn26 := hn26.fr hE
  replace hd28 := hd28.fr hE
  replace hE := hE.nx he24
  replace hb14 := hb14.ext (Ext.trans he18 he24)
  refine RL.runs rfl rfl (h_store (vv := (.agg #[(.bool (decide (qx.num < 0))), vn25, vd27])) (cs := [(.bool (decide (qx.num < 0))), vn25, vd27]) (o := 0) ty44 rfl rfl rfl rfl (one_cons rfl (one_cons hn26.one (one_cons hd28.one one_nil))) hb14 (Nat.le_of_ble_eq_true rfl)) ?_
  rintro w33 ⟨hn34, hx35, hz36⟩
  replace hE := hE.nb hx35 ge_b12
  have nb_hx35 := (Nb.of hb14 (nu_cons rfl (nu_cons rfl (nu_cons rfl nu_nil))))
  replace hb14 : Bk w33 b12 44 [(.bool (decide (qx.num < 0))), vn25, vd27] := hn34
  refine RL.nil ?_
  refine wret ?_
  refine ⟨[(.agg #[(.bool (decide (qx.num < 0))), vn25, vd27])], ⟨⟨_, _, [(.bool (decide (qx.num < 0))), vn25, vd27], rfl, ⟨_, underlying44⟩, hb14.cells rfl, .inl ⟨ag44, ⟨_, _, ty44⟩, rfl⟩⟩, trivial⟩, ?_⟩
  have hlq := rmul_len qf qy
  have hlr := radd_len qx (qf * qy)
  have hlqf := rl_of lmf lmdf ef
  have hq : qx = (qx + qf * qy) := by first | (rw [hy0, Rat.mul_zero, Rat.add_zero]; done) | rfl
  replace hn26 := hn26.apn hx35 nb_hx35
  replace hd28 := hd28.apn hx35 nb_hx35
  exact ⟨⟨_, _, agg3 (congrArg (fun z : Rat => decide (z.num < 0)) hq), by rw [← hq]; exact hn26, by rw [← hq]; exact hd28, by omega, by omega⟩, hE⟩
 ·have hb20p := of_decide_eq_false hb20
  refine wskip ?_
  refine wseq ?_
  refine wdraw mixed fun w37 he38 => ?_
  replace hE := hE.nx he38
  have hm40 := Ext.trans he8 (Ext.trans he13 (Ext.trans he18 he38))
  replace hb4 := hb4.ext hm40
  have hc39 := hb4.cells (o := 0) (cs := [(.bool sx), vx, ux]) rfl
  refine RA.rd 0 rfl (by kernel_rfl) rfl rfl rfl (by decide) (Ext.refl _) (fun u hu => r_loada (o := 0) (cs := [(.bool sx), vx, ux]) underlying44 ag44 ty44 rfl (fun j v hj => cell_ext hu (hc39 j v hj))) ?_
  have hm42 := Ext.trans he3 (Ext.trans he8 (Ext.trans he13 (Ext.trans he18 he38)))
  replace hbf := hbf.ext hm42
  have hc41 := hbf.cells (o := 0) (cs := [(.bool sf), vf, uf]) rfl
  refine RA.rd 1 rfl (by kernel_rfl) rfl rfl rfl (by decide) (Ext.refl _) (fun u hu => r_loada (o := 0) (cs := [(.bool sf), vf, uf]) underlying44 ag44 ty44 (hF0 2) (fun j v hj => cell_ext hu (hc41 j v hj))) ?_
  replace hb9 := hb9.ext (Ext.trans he18 he38)
  have hc43 := hb9.cells (o := 0) (cs := [(.bool sy), vy, uy]) rfl
  refine RA.rd 2 rfl (by kernel_rfl) rfl rfl rfl (by decide) (Ext.refl _) (fun u hu => r_loada (o := 0) (cs := [(.bool sy), vy, uy]) underlying44 ag44 ty44 rfl (fun j v hj => cell_ext hu (hc43 j v hj))) ?_
  refine RA.all [3] (by kernel_rfl) rfl ?_
  replace hf := hf.tr (Sm.ext hm42)
  replace hdf := hdf.tr (Sm.ext hm42)
  replace hy := hy.tr (Sm.ext (Ext.trans he18 he38))
  replace hdy := hdy.tr (Sm.ext (Ext.trans he18 he38))
  refine RS.call rfl rfl rfl (by decide) (r_call (vl := [(.agg #[(.bool sf), vf, uf]), (.agg #[(.bool sy), vy, uy])]) ent54 rfl) (q_mul hf lmf (by first | omega | simp) hdf lmdf (by first | omega | simp) (show ratOf sf (val f) (val df) = qf from ef) hy (by assumption) (by first | omega | simp) hdy (by assumption) (by first | omega | simp) (show ratOf sy (val y) (val dy) = qy from ey)) ?_ RS.nil
  rintro _ w44 ⟨⟨vn46, vd48, rfl, hn47, hd49, hl50, hl51⟩, he45⟩
  refine rm he45 ?_
  have hlv52 := den_one (qf * qy)
  replace hn47 := hn47.fr hE
  replace hd49 := hd49.fr hE
  replace hE := hE.nx he45
  refine RA.all [4] (by kernel_rfl) rfl ?_
  have hm61 := Ext.trans hm42 he45
  replace hx := hx.tr (Sm.ext hm61)
  replace hdx := hdx.tr (Sm.ext hm61)
  refine RS.call rfl rfl rfl (by decide) (r_call (vl := [(.agg #[(.bool sx), vx, ux]), (.agg #[(.bool (decide ((qf * qy).num < 0))), vn46, vd48])]) ent53 rfl) (q_add hx (by assumption) (by first | omega | simp) hdx (by assumption) (by first | omega | simp) (show ratOf sx (val x) (val dx) = qx from ex) hn47 (digs_lm _) (by first | omega | simp) hd49 (digs_lm _) (by first | omega | simp) (ratOf_canon _)) ?_ RS.nil
  rintro _ w53 ⟨⟨vn55, vd57, rfl, hn56, hd58, hl59, hl60⟩, he54⟩
  refine rm he54 ?_
  have hlv62 := den_one (qx + (qf * qy))
  replace hn56 := hn56.fr hE
  replace hd58 := hd58.fr hE
  replace hE := hE.nx he54
  refine RA.all [5] (by kernel_rfl) rfl ?_
  have hm67 := Ext.trans he18 (Ext.trans he38 (Ext.trans he45 he54))
  replace hb14 := hb14.ext hm67
  refine RS.runs rfl rfl rfl (h_store (vv := (.agg #[(.bool (decide ((qx + (qf * qy)).num < 0))), vn55, vd57])) (cs := [(.bool (decide ((qx + (qf * qy)).num < 0))), vn55, vd57]) (o := 0) ty44 rfl rfl rfl rfl (one_cons rfl (one_cons hn56.one (one_cons hd58.one one_nil))) hb14 (Nat.le_of_ble_eq_true rfl)) ?_ RS.nil
  rintro w63 ⟨hn64, hx65, hz66⟩
  refine ⟨.inr (.inl (by kernel_rfl)), ?_⟩
  replace hE := hE.nb hx65 ge_b12
  have nb_hx65 := (Nb.of hb14 (nu_cons rfl (nu_cons rfl (nu_cons rfl nu_nil))))
  replace hb14 : Bk w63 b12 44 [(.bool (decide ((qx + (qf * qy)).num < 0))), vn55, vd57] := hn64
  refine RA.done (by kernel_rfl) ?_
  refine wret ?_
  refine ⟨[(.agg #[(.bool (decide ((qx + (qf * qy)).num < 0))), vn55, vd57])], ⟨⟨_, _, [(.bool (decide ((qx + (qf * qy)).num < 0))), vn55, vd57], rfl, ⟨_, underlying44⟩, hb14.cells rfl, .inl ⟨ag44, ⟨_, _, ty44⟩, rfl⟩⟩, trivial⟩, ?_⟩
  have hlq := rmul_len qf qy
  have hlr := radd_len qx (qf * qy)
  have hlqf := rl_of lmf lmdf ef
  have hq : (qx + (qf * qy)) = (qx + qf * qy) := by first | (rw [hy0, Rat.mul_zero, Rat.add_zero]; done) | rfl
  replace hn56 := hn56.apn hx65 nb_hx65
  replace hd58 := hd58.apn hx65 nb_hx65
  exact ⟨⟨_, _, agg3 (congrArg (fun z : Rat => decide (z.num < 0)) hq), by rw [← hq]; exact hn56, by rw [← hq]; exact hd58, by omega, by omega⟩, hE⟩
def JF (bf : Nat) (D : Nat → TypeId → Prop) (sf : Bool) (vf uf : Value) (qf : Rat) : List (Rat × Rat) → World → Prop := fun _ w => Bk w bf 44 [.bool sf, vf, uf] ∧ Rz 2097152 D w (sf, vf, uf) qf
theorem jf_ok {bf B : Nat} {D : Nat → TypeId → Prop} {sf : Bool} {vf uf : Value} {qf : Rat} (hb : bf < B) (hD : ∀ b T, D b T → b < B) : JOk 96 B (JF bf D sf vf uf qf) :=
  ⟨fun _ _ _ h hs => ⟨hs _ _ _ _ h.1 (.inl hb), h.2.tr (fun b cs T fz hh hd => hs b cs T fz hh (.inl (hD b T hd)))⟩, fun _ _ _ _ h e hn hB => ⟨h.1.exc e (by omega), h.2.apn e hn⟩⟩
theorem op_ads {K L bf : Nat} {D : Nat → TypeId → Prop} {sf : Bool} {vf uf : Value} {qf : Rat} (hL : L ≤ 4294967296) : OpOk Tryz.prog 55 [.pointer (some ⟨bf, 0, none⟩)] none K L (2 * L + 2097160) (fun p q => p + qf * q) (JF bf D sf vf uf qf) := fun _ hJ h1 m1 l1 g1 n1 k1 e1 h2 m2 l2 g2 n2 k2 e2 => by
  obtain ⟨hb, f, df, r1, r2, r3, r4, r5, r6, r7⟩ := id hJ
  refine (v_ads1 h1 m1 (by omega) g1 n1 (by omega) e1 h2 m2 (by omega) g2 n2 (by omega) e2 hb r1 r2 (by omega) r4 r5 (by omega) r7).mono ?_
  rintro _ _ ⟨v, he, ⟨vn, vd, hv, a, b, c, d⟩, hE⟩
  exact ⟨v, he, ⟨_, vn, vd, _, _, hv, a, digs_lm _, by omega, b, digs_lm _, by omega, ratOf_canon _, fun _ => ⟨rfl, rfl, rfl⟩⟩, ⟨hJ.1.ext hE, hJ.2.tr (Sm.ext hE)⟩, Gro.of_ext hE⟩
end Go.Proofs.YtffgajgibddfmaaGreat
namespace Go.Proofs.YtffgajgibddfmaaGreat
open Go.Vg Go.RowKit _root_.Go.Proofs.Tryz
set_option linter.unusedVariables false
open Go.Vm
set_option maxHeartbeats 4000000 in
theorem v_dot1 {w : World} {sx : Bool} {Dx Ex : Nat → TypeId → Prop} {vx ux : Value} {x dx : List Nat} (hx : Sg (gN .u32) Dx w vx x) (lmx : Lm x) (lnx : x.length ≤ 4294967296) (hdx : Sg (gN .u32) Ex w ux dx) (lmdx : Lm dx) (lndx : dx.length ≤ 4294967296) {qx : Rat} (ex : ratOf sx (val x) (val dx) = qx) {sy : Bool} {Dy Ey : Nat → TypeId → Prop} {vy uy : Value} {y dy : List Nat} (hy : Sg (gN .u32) Dy w vy y) (lmy : Lm y) (lny : y.length ≤ 4294967296) (hdy : Sg (gN .u32) Ey w uy dy) (lmdy : Lm dy) (lndy : dy.length ≤ 4294967296) {qy : Rat} (ey : ratOf sy (val y) (val dy) = qy) {bs : Nat} {v0 u0 : Value} {M : Nat} {q0 : Rat} (hbs : Bk w bs 44 [.bool (decide (q0.num < 0)), v0, u0]) (h0 : Sg (gN .u32) (fun _ T => T = 96) w v0 (digs q0.num.natAbs)) (hd0 : Sg (gN .u32) (fun _ T => T = 96) w u0 (digs q0.den)) (ln0 : (digs q0.num.natAbs).length ≤ M) (lnd0 : (digs q0.den).length ≤ M) (hM : M ≤ 8589934592) {L : Nat} (hLx : x.length ≤ L) (hLdx : dx.length ≤ L) (hLy : y.length ≤ L) (hLdy : dy.length ≤ L) :
    Calls Tryz.prog 52 #[(.agg #[(.bool sx), vx, ux]), (.agg #[(.bool sy), vy, uy]), (.pointer (some ⟨bs, 0, none⟩))] w fun e w' => ∃ v, e = .returned v ∧ v = .agg #[.bool false, .slice none 0 0, .slice none 0 0] ∧ (∃ vn vd, Bk w' bs 44 [.bool (decide ((q0 + qx * qy).num < 0)), vn, vd] ∧ Sg (gN .u32) (fun _ T => T = 96) w' vn (digs (q0 + qx * qy).num.natAbs) ∧ Sg (gN .u32) (fun _ T => T = 96) w' vd (digs (q0 + qx * qy).den) ∧ (digs (q0 + qx * qy).num.natAbs).length ≤ M + (2 * L + 6) ∧ (digs (q0 + qx * qy).den).length ≤ M + (2 * L + 6)) ∧ Exc bs w w' := by
 have hX : Exc bs w w := Exc.of_ext (Ext.refl _)
 have hbsl := hbs.lt
 have hlqx := rl_of lmx lmdx ex
 have hdqx := den_one qx
 have hlqy := rl_of lmy lmdy ey
 have hdqy := den_one qy
 refine calls_of (n := 20) (rs := [.cell 5 44]) func52 rfl rfl rfl (Nat.le_of_ble_eq_true rfl) ?_
 refine wset fun F0 hF0 => ?_
 refine wsr ?_
 refine rU (h_box (vv := (.agg #[(.bool sx), vx, ux])) (cs := [(.bool sx), vx, ux]) (hF0 0) rfl) ?_
 rintro _ w1 ⟨b2, rfl, hs5, hb4, he3⟩
 have he3z := he3.size
 replace hx := hx.tr (Sm.ext he3)
 replace hdx := hdx.tr (Sm.ext he3)
 replace hy := hy.tr (Sm.ext he3)
 replace hdy := hdy.tr (Sm.ext he3)
 replace hbs := hbs.ext he3
 replace h0 := h0.tr (Sm.ext he3)
 replace hd0 := hd0.tr (Sm.ext he3)
 replace hX := hX.trans (Exc.of_ext he3)
 have hb4l := hb4.lt
 refine rU (h_box (vv := (.agg #[(.bool sy), vy, uy])) (cs := [(.bool sy), vy, uy]) (hF0 1) rfl) ?_
 rintro _ w6 ⟨b7, rfl, hs10, hb9, he8⟩
 have he8z := he8.size
 replace hx := hx.tr (Sm.ext he8)
 replace hdx := hdx.tr (Sm.ext he8)
 replace hy := hy.tr (Sm.ext he8)
 replace hdy := hdy.tr (Sm.ext he8)
 replace hbs := hbs.ext he8
 replace h0 := h0.tr (Sm.ext he8)
 replace hd0 := hd0.tr (Sm.ext he8)
 replace hX := hX.trans (Exc.of_ext he8)
 replace hb4 := hb4.ext he8
 have hb9l := hb9.lt
 refine rU (h_alloc (cs := [(.bool false), (.slice none 0 0), (.slice none 0 0)]) ty44 rfl) ?_
 rintro _ w11 ⟨b12, rfl, hs15, hb14, he13⟩
 have he13z := he13.size
 replace hx := hx.tr (Sm.ext he13)
 replace hdx := hdx.tr (Sm.ext he13)
 replace hy := hy.tr (Sm.ext he13)
 replace hdy := hdy.tr (Sm.ext he13)
 replace hbs := hbs.ext he13
 replace h0 := h0.tr (Sm.ext he13)
 replace hd0 := hd0.tr (Sm.ext he13)
 replace hX := hX.trans (Exc.of_ext he13)
 replace hb4 := hb4.ext he13
 replace hb9 := hb9.ext he13
 have hb14l := hb14.lt
 refine RL.nil (wseq (wsr ?_))
 have hc16 := hb4.cells (o := 0) (cs := [(.bool sx), vx, ux]) rfl
 refine rV (r_loada (o := 0) (cs := [(.bool sx), vx, ux]) underlying44 ag44 ty44 rfl hc16) ?_
 refine RL.call rfl rfl (by decide) (r_call (vl := [(.agg #[(.bool sx), vx, ux])]) ent44 rfl) (q_sign hx (by assumption) (by first | omega | simp) hdx (by assumption) (by first | omega | simp) (show ratOf sx (val x) (val dx) = qx from ex)) ?_
 rintro _ w17 ⟨rfl, he18⟩
 have he18z := he18.size
 replace hx := hx.tr (Sm.ext he18)
 replace hdx := hdx.tr (Sm.ext he18)
 replace hy := hy.tr (Sm.ext he18)
 replace hdy := hdy.tr (Sm.ext he18)
 replace hbs := hbs.ext he18
 replace h0 := h0.tr (Sm.ext he18)
 replace hd0 := hd0.tr (Sm.ext he18)
 replace hX := hX.trans (Exc.of_ext he18)
 replace hb4 := hb4.ext he18
 replace hb9 := hb9.ext he18
 replace hb14 := hb14.ext he18
 refine rV (r_neq (k := .i64) (a := Int.sign qx.num) (b := 0) rfl rfl) (mV (v := (.bool (decide ((Int.sign qx.num) ≠ 0)))) rfl ?_)
 rcases Bool.eq_false_or_eq_true (decide ((Int.sign qx.num) ≠ 0)) with hb19 | hb19
 ·have hb19p := of_decide_eq_true hb19
  have hc20 := hb9.cells (o := 0) (cs := [(.bool sy), vy, uy]) rfl
  refine RL.gval rfl rfl (bool_eq hb19) rfl (by decide) (r_loada (o := 0) (cs := [(.bool sy), vy, uy]) underlying44 ag44 ty44 rfl hc20) ?_
  refine RL.gcall rfl rfl (bool_eq hb19) rfl (by decide) (r_call (vl := [(.agg #[(.bool sy), vy, uy])]) ent44 rfl) (q_sign hy (by assumption) (by first | omega | simp) hdy (by assumption) (by first | omega | simp) (show ratOf sy (val y) (val dy) = qy from ey)) ?_
  rintro _ w21 ⟨rfl, he22⟩
  have he22z := he22.size
  replace hx := hx.tr (Sm.ext he22)
  replace hdx := hdx.tr (Sm.ext he22)
  replace hy := hy.tr (Sm.ext he22)
  replace hdy := hdy.tr (Sm.ext he22)
  replace hbs := hbs.ext he22
  replace h0 := h0.tr (Sm.ext he22)
  replace hd0 := hd0.tr (Sm.ext he22)
  replace hX := hX.trans (Exc.of_ext he22)
  replace hb4 := hb4.ext he22
  replace hb9 := hb9.ext he22
  replace hb14 := hb14.ext he22
  refine RL.gval rfl rfl (bool_eq hb19) rfl (by decide) (r_neq (k := .i64) (a := Int.sign qy.num) (b := 0) rfl rfl) ?_
  refine rV (r_pick_t (v := (.bool (decide ((Int.sign qy.num) ≠ 0)))) (bool_eq hb19) rfl) (RL.nil ?_)
  refine wcond (b := decide ((Int.sign qy.num) ≠ 0)) rfl (fun hb23 => ?_) (fun hb23 => ?_)
  ·have hb23p := of_decide_eq_true hb23
   refine wdraw mixed fun w24 he25 => ?_
   have he25z := he25.size
   replace hx := hx.tr (Sm.ext he25)
   replace hdx := hdx.tr (Sm.ext he25)
   replace hy := hy.tr (Sm.ext he25)
   replace hdy := hdy.tr (Sm.ext he25)
   replace hbs := hbs.ext he25
   replace h0 := h0.tr (Sm.ext he25)
   replace hd0 := hd0.tr (Sm.ext he25)
   replace hX := hX.trans (Exc.of_ext he25)
   replace hb4 := hb4.ext he25
   replace hb9 := hb9.ext he25
   replace hb14 := hb14.ext he25
   have hc26 := hbs.cells (o := 0) (cs := [(.bool (decide (q0.num < 0))), v0, u0]) rfl
   refine RA.rd 0 rfl (by kernel_rfl) rfl rfl rfl (by decide) (Ext.refl _) (fun u hu => r_loada (o := 0) (cs := [(.bool (decide (q0.num < 0))), v0, u0]) underlying44 ag44 ty44 (hF0 2) (fun j v hj => cell_ext hu (hc26 j v hj))) ?_
   have hc27 := hb4.cells (o := 0) (cs := [(.bool sx), vx, ux]) rfl
   refine RA.rd 1 rfl (by kernel_rfl) rfl rfl rfl (by decide) (Ext.refl _) (fun u hu => r_loada (o := 0) (cs := [(.bool sx), vx, ux]) underlying44 ag44 ty44 rfl (fun j v hj => cell_ext hu (hc27 j v hj))) ?_
   have hc28 := hb9.cells (o := 0) (cs := [(.bool sy), vy, uy]) rfl
   refine RA.rd 2 rfl (by kernel_rfl) rfl rfl rfl (by decide) (Ext.refl _) (fun u hu => r_loada (o := 0) (cs := [(.bool sy), vy, uy]) underlying44 ag44 ty44 rfl (fun j v hj => cell_ext hu (hc28 j v hj))) ?_
   refine RA.all [3] (by kernel_rfl) rfl ?_
   refine RS.call rfl rfl rfl (by decide) (r_call (vl := [(.agg #[(.bool sx), vx, ux]), (.agg #[(.bool sy), vy, uy])]) ent54 rfl) (q_mul hx (by assumption) (by first | omega | simp) hdx (by assumption) (by first | omega | simp) (show ratOf sx (val x) (val dx) = qx from ex) hy (by assumption) (by first | omega | simp) hdy (by assumption) (by first | omega | simp) (show ratOf sy (val y) (val dy) = qy from ey)) ?_ RS.nil
   rintro _ w29 ⟨⟨vn31, vd33, rfl, hn32, hd34, hl35, hl36⟩, he30⟩
   refine rm he30 ?_
   have hlv37 := den_one (qx * qy)
   have he30z := he30.size
   replace hbs := hbs.ext he30
   replace h0 := h0.tr (Sm.ext he30)
   replace hd0 := hd0.tr (Sm.ext he30)
   replace hX := hX.trans (Exc.of_ext he30)
   replace hb4 := hb4.ext he30
   replace hb9 := hb9.ext he30
   replace hb14 := hb14.ext he30
   refine RA.all [4] (by kernel_rfl) rfl ?_
   refine RS.call rfl rfl rfl (by decide) (r_call (vl := [(.agg #[(.bool (decide (q0.num < 0))), v0, u0]), (.agg #[(.bool (decide ((qx * qy).num < 0))), vn31, vd33])]) ent53 rfl) (q_add h0 (digs_lm _) (by first | omega | simp) hd0 (digs_lm _) (by first | omega | simp) (ratOf_canon _) hn32 (digs_lm _) (by first | omega | simp) hd34 (digs_lm _) (by first | omega | simp) (ratOf_canon _)) ?_ RS.nil
   rintro _ w38 ⟨⟨vn40, vd42, rfl, hn41, hd43, hl44, hl45⟩, he39⟩
   refine rm he39 ?_
   have hlv46 := den_one (q0 + (qx * qy))
   have he39z := he39.size
   replace hbs := hbs.ext he39
   replace h0 := h0.tr (Sm.ext he39)
   replace hd0 := hd0.tr (Sm.ext he39)
   replace hX := hX.trans (Exc.of_ext he39)
   replace hb4 := hb4.ext he39
   replace hb9 := hb9.ext he39
   replace hb14 := hb14.ext he39
   refine RA.all [5] (by kernel_rfl) rfl ?_
   refine RS.runs rfl rfl rfl (h_store (vv := (.agg #[(.bool (decide ((q0 + (qx * qy)).num < 0))), vn40, vd42])) (cs := [(.bool (decide ((q0 + (qx * qy)).num < 0))), vn40, vd42]) (o := 0) ty44 (hF0 2) rfl rfl rfl (one_cons rfl (one_cons hn41.one (one_cons hd43.one one_nil))) hbs (Nat.le_of_ble_eq_true rfl)) ?_ RS.nil
   rintro w47 ⟨hn48, hx49, hz50⟩
   refine ⟨.inr (.inl (by kernel_rfl)), ?_⟩
   have hx49z := hx49.size
   replace h0 := h0.ap hx49 hbs (nu_cons rfl (nu_cons h0.nu (nu_cons hd0.nu nu_nil)))
   replace hd0 := hd0.ap hx49 hbs (nu_cons rfl (nu_cons h0.nu (nu_cons hd0.nu nu_nil)))
   replace hX := hX.trans hx49
   replace hb4 := hb4.exc hx49 (by omega)
   replace hb9 := hb9.exc hx49 (by omega)
   replace hb14 := hb14.exc hx49 (by omega)
   replace hn41 := hn41.tr (hbs.sm hx49 (by intro hd; first | omega | (have hd2 := hd.1; omega) | exact absurd hd.2 (by decide) | exact absurd hd (by decide)))
   replace hd43 := hd43.tr (hbs.sm hx49 (by intro hd; first | omega | (have hd2 := hd.1; omega) | exact absurd hd.2 (by decide) | exact absurd hd (by decide)))
   replace hbs : Bk w47 bs 44 [(.bool (decide ((q0 + (qx * qy)).num < 0))), vn40, vd42] := hn48
   refine RA.done (by kernel_rfl) ?_
   refine wsr (rV (r_build (vl := []) (cs := [(.bool false), (.slice none 0 0), (.slice none 0 0)]) underlying44 ty44 rfl (pl44 underlying44) rfl) ?_)
   refine RL.runs rfl rfl (h_store (vv := (.agg #[(.bool false), (.slice none 0 0), (.slice none 0 0)])) (cs := [(.bool false), (.slice none 0 0), (.slice none 0 0)]) (o := 0) ty44 rfl rfl rfl rfl (one_cons rfl (one_cons rfl (one_cons rfl one_nil))) hb14 (Nat.le_of_ble_eq_true rfl)) ?_
   rintro w51 ⟨hn52, hx53, hz54⟩
   have hx53z := hx53.size
   replace hbs := hbs.exc hx53 (by omega)
   replace h0 := h0.ap hx53 hb14 (nu_cons rfl (nu_cons rfl (nu_cons rfl nu_nil)))
   replace hd0 := hd0.ap hx53 hb14 (nu_cons rfl (nu_cons rfl (nu_cons rfl nu_nil)))
   replace hX := Exc.own hX hx53 (by omega)
   replace hb4 := hb4.exc hx53 (by omega)
   replace hb9 := hb9.exc hx53 (by omega)
   replace hn41 := hn41.tr (hb14.sm hx53 (by intro hd; first | omega | (have hd2 := hd.1; omega) | exact absurd hd.2 (by decide) | exact absurd hd (by decide)))
   replace hd43 := hd43.tr (hb14.sm hx53 (by intro hd; first | omega | (have hd2 := hd.1; omega) | exact absurd hd.2 (by decide) | exact absurd hd (by decide)))
   replace hb14 : Bk w51 b12 44 [(.bool false), (.slice none 0 0), (.slice none 0 0)] := hn52
   refine RL.nil ?_
   refine wret ?_
   refine ⟨[(.agg #[(.bool false), (.slice none 0 0), (.slice none 0 0)])], ⟨⟨_, _, [(.bool false), (.slice none 0 0), (.slice none 0 0)], rfl, ⟨_, underlying44⟩, hb14.cells rfl, .inl ⟨ag44, ⟨_, _, ty44⟩, rfl⟩⟩, trivial⟩, ?_⟩
   have hlr := radd_len q0 (qx * qy)
   have hlm := rmul_len qx qy
   exact ⟨rfl, ⟨_, _, hbs, hn41.mono (fun _ _ h => by first | exact h | exact h.2), hd43.mono (fun _ _ h => by first | exact h | exact h.2), by omega, by omega⟩, hX⟩
  ·have hb23p := of_decide_eq_false hb23
   have hy0 : qy = 0 := (sign_eq qy).1 (by simpa using hb23p)
   have hpq : qx * qy = 0 := by first | (rw [hx0, Rat.zero_mul]; done) | (rw [hy0, Rat.mul_zero]; done)
   refine wskip ?_
   refine wsr (rV (r_build (vl := []) (cs := [(.bool false), (.slice none 0 0), (.slice none 0 0)]) underlying44 ty44 rfl (pl44 underlying44) rfl) ?_)
   refine RL.runs rfl rfl (h_store (vv := (.agg #[(.bool false), (.slice none 0 0), (.slice none 0 0)])) (cs := [(.bool false), (.slice none 0 0), (.slice none 0 0)]) (o := 0) ty44 rfl rfl rfl rfl (one_cons rfl (one_cons rfl (one_cons rfl one_nil))) hb14 (Nat.le_of_ble_eq_true rfl)) ?_
   rintro w55 ⟨hn56, hx57, hz58⟩
   have hx57z := hx57.size
   replace hbs := hbs.exc hx57 (by omega)
   replace h0 := h0.ap hx57 hb14 (nu_cons rfl (nu_cons rfl (nu_cons rfl nu_nil)))
   replace hd0 := hd0.ap hx57 hb14 (nu_cons rfl (nu_cons rfl (nu_cons rfl nu_nil)))
   replace hX := Exc.own hX hx57 (by omega)
   replace hb4 := hb4.exc hx57 (by omega)
   replace hb9 := hb9.exc hx57 (by omega)
   replace hb14 : Bk w55 b12 44 [(.bool false), (.slice none 0 0), (.slice none 0 0)] := hn56
   refine RL.nil ?_
   refine wret ?_
   refine ⟨[(.agg #[(.bool false), (.slice none 0 0), (.slice none 0 0)])], ⟨⟨_, _, [(.bool false), (.slice none 0 0), (.slice none 0 0)], rfl, ⟨_, underlying44⟩, hb14.cells rfl, .inl ⟨ag44, ⟨_, _, ty44⟩, rfl⟩⟩, trivial⟩, ?_⟩
   rw [hpq, Rat.add_zero]
   exact ⟨rfl, ⟨_, _, hbs, h0.mono (fun _ _ h => by first | exact h | exact h.2), hd0.mono (fun _ _ h => by first | exact h | exact h.2), by omega, by omega⟩, hX⟩
 ·have hb19p := of_decide_eq_false hb19
  have hx0 : qx = 0 := (sign_eq qx).1 (by simpa using hb19p)
  have hpq : qx * qy = 0 := by first | (rw [hx0, Rat.zero_mul]; done) | (rw [hy0, Rat.mul_zero]; done)
  refine RL.gno rfl rfl (bool_eq hb19) rfl (by decide) ?_
  refine RL.gno rfl rfl (bool_eq hb19) rfl (by decide) ?_
  refine RL.gno rfl rfl (bool_eq hb19) rfl (by decide) ?_
  refine rV (r_pick_f (v := (.bool false)) (bool_eq hb19) rfl) (RL.nil ?_)
  refine wcond_f rfl ?_
  refine wskip ?_
  refine wsr (rV (r_build (vl := []) (cs := [(.bool false), (.slice none 0 0), (.slice none 0 0)]) underlying44 ty44 rfl (pl44 underlying44) rfl) ?_)
  refine RL.runs rfl rfl (h_store (vv := (.agg #[(.bool false), (.slice none 0 0), (.slice none 0 0)])) (cs := [(.bool false), (.slice none 0 0), (.slice none 0 0)]) (o := 0) ty44 rfl rfl rfl rfl (one_cons rfl (one_cons rfl (one_cons rfl one_nil))) hb14 (Nat.le_of_ble_eq_true rfl)) ?_
  rintro w59 ⟨hn60, hx61, hz62⟩
  have hx61z := hx61.size
  replace hbs := hbs.exc hx61 (by omega)
  replace h0 := h0.ap hx61 hb14 (nu_cons rfl (nu_cons rfl (nu_cons rfl nu_nil)))
  replace hd0 := hd0.ap hx61 hb14 (nu_cons rfl (nu_cons rfl (nu_cons rfl nu_nil)))
  replace hX := Exc.own hX hx61 (by omega)
  replace hb4 := hb4.exc hx61 (by omega)
  replace hb9 := hb9.exc hx61 (by omega)
  replace hb14 : Bk w59 b12 44 [(.bool false), (.slice none 0 0), (.slice none 0 0)] := hn60
  refine RL.nil ?_
  refine wret ?_
  refine ⟨[(.agg #[(.bool false), (.slice none 0 0), (.slice none 0 0)])], ⟨⟨_, _, [(.bool false), (.slice none 0 0), (.slice none 0 0)], rfl, ⟨_, underlying44⟩, hb14.cells rfl, .inl ⟨ag44, ⟨_, _, ty44⟩, rfl⟩⟩, trivial⟩, ?_⟩
  rw [hpq, Rat.add_zero]
  exact ⟨rfl, ⟨_, _, hbs, h0.mono (fun _ _ h => by first | exact h | exact h.2), hd0.mono (fun _ _ h => by first | exact h | exact h.2), by omega, by omega⟩, hX⟩
def JD (b5 L : Nat) : List (Rat × Rat) → World → Prop := fun ps w => ∃ v u, Bk w b5 44 [.bool (decide ((sumP ps).num < 0)), v, u] ∧ Rk (2 + ps.length * (2 * L + 6)) (fun _ T => T = 96) w (decide ((sumP ps).num < 0), v, u) (sumP ps)
theorem jd_ok {b5 L B : Nat} (hb : b5 < B) : JOk 96 B (JD b5 L) :=
  ⟨fun _ _ _ h hs => by obtain ⟨v, u, h1, h2⟩ := h; exact ⟨v, u, hs _ _ _ _ h1 (.inl hb), h2.tr (fun b cs T fz hh hd => hs b cs T fz hh (.inr hd))⟩, fun _ _ _ _ h e hn hB => by obtain ⟨v, u, h1, h2⟩ := h; exact ⟨v, u, h1.exc e (by omega), h2.apn e hn⟩⟩
theorem op_dot {K L b5 : Nat} (hL : L ≤ 4294967296) (hK : 2 + K * (2 * L + 6) ≤ 8589934592) : OpOk Tryz.prog 52 [.pointer (some ⟨b5, 0, none⟩)] (some b5) K L 0 (fun _ _ => 0) (JD b5 L) := fun hps hJ h1 m1 l1 g1 n1 k1 e1 h2 m2 l2 g2 n2 k2 e2 => by
  obtain ⟨v, u, hb, _, r1, r2, r3, r4⟩ := hJ
  have hb1 := Nat.mul_le_mul_right (2 * L + 6) (Nat.le_of_lt hps)
  refine (v_dot1 h1 m1 (by omega) g1 n1 (by omega) e1 h2 m2 (by omega) g2 n2 (by omega) e2 hb r1 r2 r3 r4 (by omega) l1 k1 l2 k2).mono ?_
  rintro _ _ ⟨vv, he, hv, ⟨vn, vd, a1, a2, a3, a4, a5⟩, hX⟩
  refine ⟨vv, he, ⟨false, _, _, [], [], hv, Sg.nil, Lm.nil, Nat.zero_le _, Sg.nil, Lm.nil, Nat.zero_le _, rfl, fun h => absurd rfl h⟩, ⟨vn, vd, ?_⟩, Gro.of_exc hX⟩
  rw [sumP_snoc, List.length_append, List.length_singleton, Nat.succ_mul, ← Nat.add_assoc]
  exact ⟨a1, rfl, a2, a3, a4, a5⟩
end Go.Proofs.YtffgajgibddfmaaGreat
namespace Go.Proofs.YtffgajgibddfmaaGreat
open Go.Vg Go.RowKit _root_.Go.Proofs.Tryz
set_option linter.unusedVariables false
open Go.Vm
set_option maxHeartbeats 1000000 in
theorem v_norm {w : World} {L : Nat} {Dx : Nat → TypeId → Prop} {vx : Value} {x : List Ent'} (hx0 : Es L Dx w vx x) {M : Nat} (hfx : (Asc x ∧ L ≤ M) ∨ (x.length + 1) * (L + 3) ≤ M) (hlx : x.length ≤ 524288) (hM : M ≤ 8589934000) :
    Calls Tryz.prog 30 #[vx] w fun e w' => ∃ v, e = .returned v ∧ (∃ rs, Oe (M + 1) (fun b T => w.heap.size ≤ b ∧ T = 96) w' w.heap.size 58 v rs ∧ Asc rs ∧ NonZ rs ∧ (∀ i, get rs i = get x i) ∧ rs.length ≤ x.length ∧ v.ownBlock ≠ none) ∧ Ext w w' := by
 have hE : Below w.heap.size w w := Below.refl _ _
 have hx := hx0.old
 clear hx0
 refine calls_of (n := 6) (rs := [.tmp 2]) func30 rfl rfl rfl (Nat.le_of_ble_eq_true rfl) ?_
 refine wset fun F0 hF0 => ?_
 refine wsr (aS (v := (.slice none (0) (0))) rfl (RL.nil (wsr (mV (v := vx) (hF0 0) ?_))))
 refine cL ent51 (v_arrange (es := x) (M := M) hx hfx (by omega)) rfl ?_
 rintro va4 w1 ⟨⟨esar3, hrar3, haar3, hgar3, hlar3⟩, he2⟩
 replace hE := hE.nx he2
 refine RL.call rfl rfl (by decide) (r_call (vl := [va4, (.slice none (0) (0)), (.func (.func 59) #[] #[])]) ent50 rfl) (v_merge (L := M) (D := (fun _ _ => True)) ((hrar3.mono (fun _ _ _ => trivial)).wide (by omega)) Es.nil haar3 List.Pairwise.nil ent59 (op_norm (by omega)) (Nat.le_refl _) (j_true) (trivial) (fun k h => by cases h) (fun k T h => by cases h) (by omega) (Nat.zero_le _) (by omega) (by omega)) ?_
 rintro vm8 w5 ⟨⟨rs9, ps10, ho11, hm12, hj13, hl14, hp15, hw16⟩, hg6⟩
 replace ho11 := Oe.fr (D' := (fun b T => w.heap.size ≤ b ∧ T = 96)) (lo' := w.heap.size) ho11 hE.size (fun _ _ h => ⟨Nat.le_trans hE.size h.1, h.2⟩)
 have he7 := hg6.ext
 replace hE := hE.nx he7
 refine aS (v := vm8) rfl (RL.nil ?_)
 refine wret ?_
 refine ⟨[vm8], ⟨rfl, trivial⟩, ?_⟩
 obtain ⟨f1, f2, f3⟩ := hm12.fin rfl
 exact ⟨⟨rs9, ho11, f1, f2, fun i => (f3 i).trans (by show get _ i = _; rw [hgar3 i]), by first | omega | (simp only [List.length_nil] at *; omega), hw16⟩, hE⟩
set_option maxHeartbeats 1000000 in
theorem v_ads {w : World} {Lx : Nat} {Dx : Nat → TypeId → Prop} {vx : Value} {x : List Ent'} (hx0 : Es Lx Dx w vx x) {Ly : Nat} {Dy : Nat → TypeId → Prop} {vy : Value} {y : List Ent'} (hy0 : Es Ly Dy w vy y) {M : Nat} (hfx : (Asc x ∧ Lx ≤ M) ∨ (x.length + 1) * (Lx + 3) ≤ M) (hlx : x.length ≤ 524288) (hfy : (Asc y ∧ Ly ≤ M) ∨ (y.length + 1) * (Ly + 3) ≤ M) (hly : y.length ≤ 524288) (hM : M ≤ 4294967296) {sf : Bool} {Df : Nat → TypeId → Prop} {vf uf : Value} {f df : List Nat} (hf0 : Sg (gN .u32) Df w vf f) (lmf : Lm f) (lnf : f.length ≤ 2097152) (hdf0 : Sg (gN .u32) Df w uf df) (lmdf : Lm df) (lndf : df.length ≤ 2097152) {qf : Rat} (ef : ratOf sf (val f) (val df) = qf) :
    Calls Tryz.prog 22 #[vx, (.agg #[(.bool sf), vf, uf]), vy] w fun e w' => ∃ v, e = .returned v ∧ (∃ rs, Oe (2 * M + 2097160) (fun b T => w.heap.size ≤ b ∧ T = 96) w' w.heap.size 58 v rs ∧ Asc rs ∧ NonZ rs ∧ (∀ i, get rs i = get x i + qf * get y i) ∧ rs.length ≤ x.length + y.length ∧ v.ownBlock ≠ none) ∧ Ext w w' := by
 have hE : Below w.heap.size w w := Below.refl _ _
 have hx := hx0.old
 clear hx0
 have hy := hy0.old
 clear hy0
 have hf := hf0.old
 clear hf0
 have hdf := hdf0.old
 clear hdf0
 refine calls_of (n := 13) (rs := [.tmp 6]) func22 rfl rfl rfl (Nat.le_of_ble_eq_true rfl) ?_
 refine wset fun F0 hF0 => ?_
 refine wsr ?_
 refine rU (h_box (vv := (.agg #[(.bool sf), vf, uf])) (cs := [(.bool sf), vf, uf]) (hF0 1) rfl) ?_
 rintro _ w1 ⟨b2, rfl, hs5, hb4, he3⟩
 have ge_b2 := hE.ge hs5
 replace hE := hE.nx he3
 refine aS (v := (.slice none (0) (0))) rfl (RL.nil (wsr (mV (v := vx) (hF0 0) ?_)))
 replace hx := hx.tr (Sm.ext he3)
 refine cL ent51 (v_arrange (es := x) (M := M) hx hfx (by omega)) rfl ?_
 rintro va9 w6 ⟨⟨esar8, hrar8, haar8, hgar8, hlar8⟩, he7⟩
 replace hE := hE.nx he7
 refine mV (v := vy) (hF0 2) ?_
 replace hy := hy.tr (Sm.ext (Ext.trans he3 he7))
 refine cL ent51 (v_arrange (es := y) (M := M) hy hfy (by omega)) rfl ?_
 rintro va13 w10 ⟨⟨esar12, hrar12, haar12, hgar12, hlar12⟩, he11⟩
 replace hE := hE.nx he11
 refine rV (r_makeFunc (vl := [(.pointer (some ⟨b2, 0, none⟩))]) rfl) ?_
 replace hrar8 := hrar8.tr (Sm.ext he11)
 replace hb4 := hb4.ext (Ext.trans he7 he11)
 have hm26 := Ext.trans he3 (Ext.trans he7 he11)
 replace hf := hf.tr (Sm.ext hm26)
 replace hdf := hdf.tr (Sm.ext hm26)
 refine RL.call rfl rfl (by decide) (r_call (vl := [va9, va13, (.func (.func 55) #[] #[(.pointer (some ⟨b2, 0, none⟩))])]) ent50 rfl) (v_merge (L := M) (D := (fun _ _ => True)) ((hrar8.mono (fun _ _ _ => trivial)).wide (by omega)) ((hrar12.mono (fun _ _ _ => trivial)).wide (by omega)) haar8 haar12 ent55 (op_ads (bf := b2) (D := (fun b T => Df b T ∧ b < w.heap.size)) (sf := sf) (vf := vf) (uf := uf) (qf := qf) (by omega)) (Nat.le_refl _) (jf_ok hb4.lt (fun _ _ h => Nat.lt_of_lt_of_le h.2 hE.size)) (⟨hb4, _, _, hf, lmf, lnf, hdf, lmdf, lndf, ef⟩) (fun k h => by cases h) (fun k T h => by cases h) (by omega) (by omega) (by omega) (by omega)) ?_
 rintro vm17 w14 ⟨⟨rs18, ps19, ho20, hm21, hj22, hl23, hp24, hw25⟩, hg15⟩
 replace ho20 := Oe.fr (D' := (fun b T => w.heap.size ≤ b ∧ T = 96)) (lo' := w.heap.size) ho20 hE.size (fun _ _ h => ⟨Nat.le_trans hE.size h.1, h.2⟩)
 have he16 := hg15.ext
 replace hE := hE.nx he16
 refine aS (v := vm17) rfl (RL.nil ?_)
 refine wret ?_
 refine ⟨[vm17], ⟨rfl, trivial⟩, ?_⟩
 obtain ⟨f1, f2, f3⟩ := hm21.fin (by show (0 : Rat) + qf * 0 = 0; rw [Rat.mul_zero, Rat.add_zero])
 exact ⟨⟨rs18, ho20, f1, f2, fun i => (f3 i).trans (by show get _ i + qf * get _ i = _; rw [hgar8 i, hgar12 i]), by first | omega | (simp only [List.length_nil] at *; omega), hw25⟩, hE⟩
set_option maxHeartbeats 1000000 in
theorem v_dot {w : World} {Lx : Nat} {Dx : Nat → TypeId → Prop} {vx : Value} {x : List Ent'} (hx0 : Es Lx Dx w vx x) {Ly : Nat} {Dy : Nat → TypeId → Prop} {vy : Value} {y : List Ent'} (hy0 : Es Ly Dy w vy y) {M : Nat} (hfx : (Asc x ∧ Lx ≤ M) ∨ (x.length + 1) * (Lx + 3) ≤ M) (hlx : x.length ≤ 40) (hfy : (Asc y ∧ Ly ≤ M) ∨ (y.length + 1) * (Ly + 3) ≤ M) (hly : y.length ≤ 40) (hM : M ≤ 53687088) :
    Calls Tryz.prog 20 #[vx, vy] w fun e w' => ∃ v, e = .returned v ∧ (∃ vn vd, v = .agg #[.bool (decide ((dtF x y).num < 0)), vn, vd] ∧ Sg (gN .u32) (fun _ T => T = 96) w' vn (digs (dtF x y).num.natAbs) ∧ Sg (gN .u32) (fun _ T => T = 96) w' vd (digs (dtF x y).den) ∧ (digs (dtF x y).num.natAbs).length ≤ 8589934592 ∧ (digs (dtF x y).den).length ≤ 8589934592) ∧ Ext w w' := by
 have hE : Below w.heap.size w w := Below.refl _ _
 have hx := hx0.old
 clear hx0
 have hy := hy0.old
 clear hy0
 refine calls_of (n := 14) (rs := [.cell 4 44]) func20 rfl rfl rfl (Nat.le_of_ble_eq_true rfl) ?_
 refine wset fun F0 hF0 => ?_
 refine wsr ?_
 refine rU (h_alloc (cs := [(.bool false), (.slice none 0 0), (.slice none 0 0)]) ty44 rfl) ?_
 rintro _ w1 ⟨b2, rfl, hs5, hb4, he3⟩
 have ge_b2 := hE.ge hs5
 replace hE := hE.nx he3
 refine RL.nil (wsr ?_)
 refine cL ent49 (q_from (by omega)) rfl ?_
 rintro _ w6 ⟨⟨vn8, vd10, rfl, hn9, hd11, hl12, hl13⟩, he7⟩
 have hlv14 := den_one ((0 : Int) : Rat)
 replace hn9 := hn9.fr hE
 replace hd11 := hd11.fr hE
 replace hE := hE.nx he7
 refine rU (h_alloc (cs := [(.bool false), (.slice none 0 0), (.slice none 0 0)]) ty44 rfl) ?_
 rintro _ w15 ⟨b16, rfl, hs19, hb18, he17⟩
 replace hb4 := hb4.ext he7
 have lt_b2_b16 := Nat.lt_of_lt_of_eq hb4.lt hs19.symm
 have ge_b16 := hE.ge hs19
 replace hE := hE.nx he17
 refine RL.runs rfl rfl (h_store (vv := (.agg #[(.bool (decide (((0 : Int) : Rat).num < 0))), vn8, vd10])) (cs := [(.bool (decide (((0 : Int) : Rat).num < 0))), vn8, vd10]) (o := 0) ty44 rfl rfl rfl rfl (one_cons rfl (one_cons hn9.one (one_cons hd11.one one_nil))) hb18 (Nat.le_of_ble_eq_true rfl)) ?_
 rintro w20 ⟨hn21, hx22, hz23⟩
 replace hE := hE.nb hx22 ge_b16
 have nb_hx22 := (Nb.of hb18 (nu_cons rfl (nu_cons rfl (nu_cons rfl nu_nil))))
 replace hb18 : Bk w20 b16 44 [(.bool (decide (((0 : Int) : Rat).num < 0))), vn8, vd10] := hn21
 refine RL.nil (wsr (mV (v := vx) (hF0 0) ?_))
 have ltDx := hb18.lt
 have hm28 := Ext.trans he3 (Ext.trans he7 he17)
 replace hx := (hx.tr (Sm.ext hm28)).tr (Sm.exc hx22 (fun _ _ _ _ hd => absurd hd.2 (Nat.not_lt_of_le ge_b16)))
 refine cL ent51 (v_arrange (es := x) (M := M) hx hfx (by omega)) rfl ?_
 rintro va27 w24 ⟨⟨esar26, hrar26, haar26, hgar26, hlar26⟩, he25⟩
 replace hE := hE.nx he25
 refine mV (v := vy) (hF0 1) ?_
 replace hb18 := hb18.ext he25
 have ltDy := hb18.lt
 replace hy := ((hy.tr (Sm.ext hm28)).tr (Sm.exc hx22 (fun _ _ _ _ hd => absurd hd.2 (Nat.not_lt_of_le ge_b16)))).tr (Sm.ext he25)
 refine cL ent51 (v_arrange (es := y) (M := M) hy hfy (by omega)) rfl ?_
 rintro va32 w29 ⟨⟨esar31, hrar31, haar31, hgar31, hlar31⟩, he30⟩
 replace hE := hE.nx he30
 refine rV (r_makeFunc (vl := [(.pointer (some ⟨b16, 0, none⟩))]) rfl) ?_
 replace hrar26 := hrar26.tr (Sm.ext he30)
 replace hb18 := hb18.ext he30
 replace hn9 := ((hn9.tr (Sm.ext he17)).apn hx22 nb_hx22).tr (Sm.ext (Ext.trans he25 he30))
 replace hd11 := ((hd11.tr (Sm.ext he17)).apn hx22 nb_hx22).tr (Sm.ext (Ext.trans he25 he30))
 refine RL.call rfl rfl (by decide) (r_call (vl := [va27, va32, (.func (.func 52) #[] #[(.pointer (some ⟨b16, 0, none⟩))])]) ent50 rfl) (v_merge (L := M) (D := (fun b _ => b ≠ b16)) ((hrar26.mono (fun b T h he => by subst he; rcases h with h | h; exact absurd h.1.2 (Nat.not_lt_of_le ge_b16); exact absurd ltDx (Nat.not_lt_of_le h.1))).wide (by omega)) ((hrar31.mono (fun b T h he => by subst he; rcases h with h | h; exact absurd h.1.2 (Nat.not_lt_of_le ge_b16); exact absurd ltDy (Nat.not_lt_of_le h.1))).wide (by omega)) haar26 haar31 ent52 (op_dot (K := 80) (b5 := b16) (by omega) (by omega)) (by omega) (jd_ok hb18.lt) (⟨_, _, hb18, rfl, hn9.mono (fun _ _ h => h.2), hd11.mono (fun _ _ h => h.2), Nat.zero_le _, Nat.le_trans (show (digs (sumP []).den).length ≤ 2 from Nat.le_succ 1) (Nat.le_add_right _ _)⟩) (fun k h => by cases h; exact hb18.lt) (fun k T h hd => by cases h; exact hd rfl) (by omega) (by omega) (by omega) (by omega)) ?_
 rintro vm36 w33 ⟨⟨rs37, ps38, ho39, hm40, hj41, hl42, hp43, hw44⟩, hg34⟩
 replace ho39 := Oe.fr (D' := (fun b T => w.heap.size ≤ b ∧ T = 96)) (lo' := w.heap.size) ho39 hE.size (fun _ _ h => ⟨Nat.le_trans hE.size h.1, h.2⟩)
 have he35 := hg34.exc
 replace hE := hE.nb he35 ge_b16
 have nb_he35 := (Nb.of hb18 (nu_cons rfl (nu_cons hn9.nu (nu_cons hd11.nu nu_nil))))
 obtain ⟨vD, uD, hbD, _, hxD, hdD, lnD, ldD⟩ := hj41
 have hsum : sumP ps38 = dtF esar26 esar31 := hm40.sum
 rw [hsum] at hbD hxD hdD lnD ldD
 replace hb18 := hbD
 have hpm := Nat.mul_le_mul_right (2 * M + 6) (show ps38.length ≤ 80 by omega)
 refine RL.nil (wsr ?_)
 have hc45 := hb18.cells (o := 0) (cs := [(.bool (decide ((dtF esar26 esar31).num < 0))), vD, uD]) rfl
 refine rV (r_loada (o := 0) (cs := [(.bool (decide ((dtF esar26 esar31).num < 0))), vD, uD]) underlying44 ag44 ty44 rfl hc45) ?_
 replace hb4 := (((hb4.ext he17).exc hx22 (Nat.ne_of_lt lt_b2_b16)).ext (Ext.trans he25 he30)).exc he35 (Nat.ne_of_lt lt_b2_b16)
 refine RL.runs rfl rfl (h_store (vv := (.agg #[(.bool (decide ((dtF esar26 esar31).num < 0))), vD, uD])) (cs := [(.bool (decide ((dtF esar26 esar31).num < 0))), vD, uD]) (o := 0) ty44 rfl rfl rfl rfl (one_cons rfl (one_cons hxD.one (one_cons hdD.one one_nil))) hb4 (Nat.le_of_ble_eq_true rfl)) ?_
 rintro w46 ⟨hn47, hx48, hz49⟩
 replace hE := hE.nb hx48 ge_b2
 have nb_hx48 := (Nb.of hb4 (nu_cons rfl (nu_cons rfl (nu_cons rfl nu_nil))))
 replace hb4 : Bk w46 b2 44 [(.bool (decide ((dtF esar26 esar31).num < 0))), vD, uD] := hn47
 refine RL.nil ?_
 refine wret ?_
 refine ⟨[(.agg #[(.bool (decide ((dtF esar26 esar31).num < 0))), vD, uD])], ⟨⟨_, _, [(.bool (decide ((dtF esar26 esar31).num < 0))), vD, uD], rfl, ⟨_, underlying44⟩, hb4.cells rfl, .inl ⟨ag44, ⟨_, _, ty44⟩, rfl⟩⟩, trivial⟩, ?_⟩
 have hq : dtF esar26 esar31 = dtF x y := dtF_ext hgar26 hgar31
 replace hxD := hxD.apn hx48 nb_hx48
 replace hdD := hdD.apn hx48 nb_hx48
 rw [hq] at hxD hdD lnD ldD
 exact ⟨⟨_, _, agg3 (by rw [hq]), hxD, hdD, by omega, by omega⟩, hE⟩
end Go.Proofs.YtffgajgibddfmaaGreat
namespace Go.Proofs.YtffgajgibddfmaaGreat
open Go.Vg Go.RowKit _root_.Go.Proofs.Tryz
set_option linter.unusedVariables false
open Go.Vm
set_option maxHeartbeats 1000000 in
theorem r02_eqt {w : World} {sx : Bool} {Dx Dy : Nat → TypeId → Prop} {vx vy : Value} {x : List Nat} (hx : Sg (gN .u32) Dx w vx x) (hy : Sg (gN .u32) Dy w vy x) :
    Calls Tryz.prog 47 #[(.agg #[(.bool sx), vx]), (.agg #[(.bool sx), vy])] w fun e w' => ∃ v, e = .returned v ∧ v = .bool true ∧ Ext w w' := by
 have hE : Below w.heap.size w w := Below.refl _ _
 refine calls_of (n := 17) (rs := [.tmp 4]) func47 rfl rfl rfl (Nat.le_of_ble_eq_true rfl) ?_
 refine wset fun F0 hF0 => ?_
 refine wsr ?_
 refine rU (h_box (vv := (.agg #[(.bool sx), vx])) (cs := [(.bool sx), vx]) (hF0 0) rfl) ?_
 rintro _ w1 ⟨b2, rfl, hs5, hb4, he3⟩
 have ge_b2 := hE.ge hs5
 replace hE := hE.nx he3
 refine rU (h_box (vv := (.agg #[(.bool sx), vy])) (cs := [(.bool sx), vy]) (hF0 1) rfl) ?_
 rintro _ w6 ⟨b7, rfl, hs10, hb9, he8⟩
 have lt_b2_b7 := Nat.lt_of_lt_of_eq hb4.lt hs10.symm
 have ge_b7 := hE.ge hs10
 replace hE := hE.nx he8
 refine aS (v := (.bool false)) rfl (RL.nil (wsr (rV (r_fieldAddr underlying42 rfl ty4 rfl) ?_)))
 replace hb4 := hb4.ext he8
 have hc11 := hb4.cell (j := 0) (u := (.bool sx)) rfl
 refine rV (r_load underlying4 ag4 rfl hc11) (rV (r_fieldAddr underlying42 rfl ty4 rfl) ?_)
 have hc12 := hb9.cell (j := 0) (u := (.bool sx)) rfl
 refine rV (r_load underlying4 ag4 rfl hc12) (rV (r_eqlb underlying4 rfl rfl) (mV (v := (.bool (sx == sx))) rfl ?_))
 rcases Bool.eq_false_or_eq_true (sx == sx) with hb13 | hb13
 ·have hb13p := hb13
  refine RL.gval rfl rfl (bool_eq hb13) rfl (by decide) (r_fieldAddr underlying42 rfl ty40 rfl) ?_
  have hc14 := hb4.cell (j := 1) (u := vx) rfl
  refine RL.gval rfl rfl (bool_eq hb13) rfl (by decide) (r_load underlying40 ag40 rfl hc14) ?_
  refine RL.gval rfl rfl (bool_eq hb13) rfl (by decide) (r_fieldAddr underlying42 rfl ty40 rfl) ?_
  have hc15 := hb9.cell (j := 1) (u := vy) rfl
  refine RL.gval rfl rfl (bool_eq hb13) rfl (by decide) (r_load underlying40 ag40 rfl hc15) ?_
  replace hx := hx.tr (Sm.ext (Ext.trans he3 he8))
  replace hy := hy.tr (Sm.ext (Ext.trans he3 he8))
  refine RL.gcall rfl rfl (bool_eq hb13) rfl (by decide) (r_call (vl := [vx, vy]) ent48 rfl) (r01_equal hx hy) ?_
  rintro _ w16 ⟨rfl, he17⟩
  replace hE := hE.nx he17
  refine rV (r_pick_t (v := (.bool (decide (x = x)))) (bool_eq hb13) rfl) (aS (v := (.bool (decide (x = x)))) rfl (RL.nil ?_))
  refine wret ?_
  refine ⟨[(.bool (decide (x = x)))], ⟨rfl, trivial⟩, ?_⟩
  exact ⟨bool_eq (decide_eq_true rfl), hE⟩
 ·have hb13p := hb13
  exact absurd hb13p (by simp)
set_option maxHeartbeats 1000000 in
theorem r03_eqt {w : World} {q : Rat} {Dx : Nat → TypeId → Prop} {vx ux : Value} (hx : Sg (gN .u32) Dx w vx (digs q.num.natAbs)) (hdx : Sg (gN .u32) Dx w ux (digs q.den)) {Dy : Nat → TypeId → Prop} {vy uy : Value} (hy : Sg (gN .u32) Dy w vy (digs q.num.natAbs)) (hdy : Sg (gN .u32) Dy w uy (digs q.den)) :
    Calls Tryz.prog 19 #[(.agg #[(.bool (decide (q.num < 0))), vx, ux]), (.agg #[(.bool (decide (q.num < 0))), vy, uy])] w fun e w' => ∃ v, e = .returned v ∧ v = .bool true ∧ Ext w w' := by
 have hE : Below w.heap.size w w := Below.refl _ _
 refine calls_of (n := 17) (rs := [.tmp 4]) func19 rfl rfl rfl (Nat.le_of_ble_eq_true rfl) ?_
 refine wset fun F0 hF0 => ?_
 refine wsr ?_
 refine rU (h_box (vv := (.agg #[(.bool (decide (q.num < 0))), vx, ux])) (cs := [(.bool (decide (q.num < 0))), vx, ux]) (hF0 0) rfl) ?_
 rintro _ w1 ⟨b2, rfl, hs5, hb4, he3⟩
 have ge_b2 := hE.ge hs5
 replace hE := hE.nx he3
 refine rU (h_box (vv := (.agg #[(.bool (decide (q.num < 0))), vy, uy])) (cs := [(.bool (decide (q.num < 0))), vy, uy]) (hF0 1) rfl) ?_
 rintro _ w6 ⟨b7, rfl, hs10, hb9, he8⟩
 have lt_b2_b7 := Nat.lt_of_lt_of_eq hb4.lt hs10.symm
 have ge_b7 := hE.ge hs10
 replace hE := hE.nx he8
 refine aS (v := (.bool false)) rfl (RL.nil (wsr (rV (r_fieldAddr underlying44 rfl ty42 rfl) ?_)))
 replace hb4 := hb4.ext he8
 have hc11 := hb4.cells (o := 0) (cs := [(.bool (decide (q.num < 0))), vx]) rfl
 refine rV (r_loada (o := 0) (cs := [(.bool (decide (q.num < 0))), vx]) underlying42 ag42 ty42 rfl hc11) (rV (r_fieldAddr underlying44 rfl ty42 rfl) ?_)
 have hc12 := hb9.cells (o := 0) (cs := [(.bool (decide (q.num < 0))), vy]) rfl
 refine rV (r_loada (o := 0) (cs := [(.bool (decide (q.num < 0))), vy]) underlying42 ag42 ty42 rfl hc12) ?_
 replace hx := hx.tr (Sm.ext (Ext.trans he3 he8))
 replace hy := hy.tr (Sm.ext (Ext.trans he3 he8))
 refine RL.call rfl rfl (by decide) (r_call (vl := [(.agg #[(.bool (decide (q.num < 0))), vx]), (.agg #[(.bool (decide (q.num < 0))), vy])]) ent47 rfl) (r02_eqt hx hy) ?_
 rintro _ w13 ⟨rfl, he14⟩
 replace hE := hE.nx he14
 refine mV (v := (.bool true)) rfl ?_
 refine RL.gval rfl rfl rfl rfl (by decide) (r_fieldAddr underlying44 rfl ty40 rfl) ?_
 replace hb4 := hb4.ext he14
 have hc15 := hb4.cell (j := 2) (u := ux) rfl
 refine RL.gval rfl rfl rfl rfl (by decide) (r_load underlying40 ag40 rfl hc15) ?_
 refine RL.gval rfl rfl rfl rfl (by decide) (r_fieldAddr underlying44 rfl ty40 rfl) ?_
 replace hb9 := hb9.ext he14
 have hc16 := hb9.cell (j := 2) (u := uy) rfl
 refine RL.gval rfl rfl rfl rfl (by decide) (r_load underlying40 ag40 rfl hc16) ?_
 have hm19 := Ext.trans he3 (Ext.trans he8 he14)
 replace hdx := hdx.tr (Sm.ext hm19)
 replace hdy := hdy.tr (Sm.ext hm19)
 refine RL.gcall rfl rfl rfl rfl (by decide) (r_call (vl := [ux, uy]) ent48 rfl) (r01_equal hdx hdy) ?_
 rintro _ w17 ⟨rfl, he18⟩
 replace hE := hE.nx he18
 refine rV (r_pick_t (v := (.bool (decide ((digs q.den) = (digs q.den))))) rfl rfl) (aS (v := (.bool (decide ((digs q.den) = (digs q.den))))) rfl (RL.nil ?_))
 refine wret ?_
 refine ⟨[(.bool (decide ((digs q.den) = (digs q.den))))], ⟨rfl, trivial⟩, ?_⟩
 exact ⟨bool_eq (decide_eq_true rfl), hE⟩
set_option maxHeartbeats 1000000 in
theorem r03_cant {w : World} {q : Rat} {Dx : Nat → TypeId → Prop} {vx ux : Value} (hx : Sg (gN .u32) Dx w vx (digs q.num.natAbs)) (hdx : Sg (gN .u32) Dx w ux (digs q.den)) (ln : (digs q.num.natAbs).length ≤ 17179869184) (ld : (digs q.den).length ≤ 17179869184) :
    Calls Tryz.prog 42 #[(.agg #[(.bool (decide (q.num < 0))), vx, ux])] w fun e w' => ∃ v, e = .returned v ∧ v = .bool true ∧ Ext w w' := by
 have hE : Below w.heap.size w w := Below.refl _ _
 refine calls_of (n := 7) (rs := [.tmp 2]) func42 rfl rfl rfl (Nat.le_of_ble_eq_true rfl) ?_
 refine wset fun F0 hF0 => ?_
 refine wsr ?_
 refine rU (h_box (vv := (.agg #[(.bool (decide (q.num < 0))), vx, ux])) (cs := [(.bool (decide (q.num < 0))), vx, ux]) (hF0 0) rfl) ?_
 rintro _ w1 ⟨b2, rfl, hs5, hb4, he3⟩
 have ge_b2 := hE.ge hs5
 replace hE := hE.nx he3
 refine aS (v := (.bool false)) rfl (RL.nil (wseq ?_))
 refine wdraw mixed fun w6 he7 => ?_
 replace hE := hE.nx he7
 replace hb4 := hb4.ext he7
 have hc8 := hb4.cells (o := 0) (cs := [(.bool (decide (q.num < 0))), vx, ux]) rfl
 refine RA.rd 0 rfl (by kernel_rfl) rfl rfl rfl (by decide) (Ext.refl _) (fun u hu => r_loada (o := 0) (cs := [(.bool (decide (q.num < 0))), vx, ux]) underlying44 ag44 ty44 rfl (fun j v hj => cell_ext hu (hc8 j v hj))) ?_
 have hc9 := hb4.cells (o := 0) (cs := [(.bool (decide (q.num < 0))), vx, ux]) rfl
 refine RA.rd 1 rfl (by kernel_rfl) rfl rfl rfl (by decide) (Ext.refl _) (fun u hu => r_loada (o := 0) (cs := [(.bool (decide (q.num < 0))), vx, ux]) underlying44 ag44 ty44 rfl (fun j v hj => cell_ext hu (hc9 j v hj))) ?_
 refine RA.all [2] (by kernel_rfl) rfl ?_
 replace hx := hx.tr (Sm.ext (Ext.trans he3 he7))
 replace hdx := hdx.tr (Sm.ext (Ext.trans he3 he7))
 refine RS.call rfl rfl rfl (by decide) (r_call (vl := [(.agg #[(.bool (decide (q.num < 0))), vx, ux])]) ent58 rfl) (r03_norm hx (digs_lm _) (by first | omega | simp) hdx (digs_lm _) (by first | omega | simp) (ratOf_canon _)) ?_ RS.nil
 rintro _ w10 ⟨⟨vn12, vd14, rfl, hn13, hd15, hl16, hl17⟩, he11⟩
 refine rm he11 ?_
 have hlv18 := den_one q
 replace hn13 := hn13.fr hE
 replace hd15 := hd15.fr hE
 replace hE := hE.nx he11
 refine RA.all [3] (by kernel_rfl) rfl ?_
 replace hx := hx.tr (Sm.ext he11)
 replace hdx := hdx.tr (Sm.ext he11)
 refine RS.call rfl rfl rfl (by decide) (r_call (vl := [(.agg #[(.bool (decide (q.num < 0))), vx, ux]), (.agg #[(.bool (decide (q.num < 0))), vn12, vd14])]) ent19 rfl) (r03_eqt hx hdx hn13 hd15) ?_ RS.nil
 rintro _ w19 ⟨rfl, he20⟩
 refine rm he20 ?_
 replace hE := hE.nx he20
 refine ra 4 rfl (fun _ => r_assign_as (v := (.bool true)) rfl) ?_
 refine RA.done (by kernel_rfl) ?_
 refine wret ?_
 refine ⟨[(.bool true)], ⟨rfl, trivial⟩, ?_⟩
 exact ⟨rfl, hE⟩
set_option maxHeartbeats 4000000 in
theorem r06_ident {w : World} {L : Nat} {Dx Dy : Nat → TypeId → Prop} {vx vy : Value} {es : List Ent'} (hx0 : Ec L Dx w vx es) (hy0 : Ec L Dy w vy es) (hL : L ≤ 17179869184) :
    Calls Tryz.prog 15 #[vx, vy] w fun e w' => ∃ v, e = .returned v ∧ v = .bool true ∧ Ext w w' := by
 have hE : Below w.heap.size w w := Below.refl _ _
 have hx := hx0
 have hy := hy0
 clear hx0 hy0
 refine calls_of (n := 51) (rs := [.tmp 4]) func15 rfl rfl rfl (Nat.le_of_ble_eq_true rfl) ?_
 refine wset fun F0 hF0 => ?_
 refine wsr (aS (v := (.bool false)) rfl (RL.nil (wseq (wsr (mV (v := vx) (hF0 0) ?_)))))
 obtain ⟨A1, c2, hv3, hc4, hc5⟩ := hx.len
 refine rV (r_len underlying22 hv3) (mV (v := vy) (hF0 1) ?_)
 obtain ⟨A6, c7, hv8, hc9, hc10⟩ := hy.len
 refine rV (r_len underlying22 hv8) (rV (r_neq (k := .i64) (a := ((es.length : Nat) : Int)) (b := ((es.length : Nat) : Int)) rfl rfl) (RL.nil ?_))
 refine wcond (b := decide (((es.length : Nat) : Int) ≠ ((es.length : Nat) : Int))) rfl (fun hb11 => ?_) (fun hb11 => ?_)
 ·have hb11p := of_decide_eq_true hb11
  exact absurd rfl hb11p
 ·have hb11p := of_decide_eq_false hb11
  refine wskip ?_
  refine wseq (wsr (aS (v := (.int .i64 0)) rfl (RL.nil ?_)))
  refine wblock ?_
  refine wset fun F12 hF13 => ?_
  refine wloop (σ := Nat) (fun (k : Nat) fl wl => Off [4, 5, 11, 12, 13, 14, 15, 16, 17, 18, 19, 20, 21, 22, 23, 24, 25, 26, 27, 28, 29, 30, 31, 32, 33, 34, 35, 36, 37, 38, 39, 40, 41, 42, 43, 44, 45, 46, 47, 48, 49, 50] F12 fl ∧ fl 5 = (.int .i64 (k : Int)) ∧ (k ≤ es.length) ∧ (Ec L Dx wl vx es) ∧ (Ec L Dy wl vy es) ∧ (Below w.heap.size w wl)) (fun (k : Nat) => es.length - k) (0) ?_ ?_
  ·exact ⟨Off.refl _ _, (hF13 5).trans (rfl), Nat.zero_le _, hx, hy, hE⟩
  ·clear hx hy hE
   rintro k f14 w15 ⟨hoff16, hs17, hk, hx, hy, hE⟩
   refine wseq (wsr (mV hs17 (mV (v := vx) ((hoff16 0 rfl).trans ((hF13 0).trans (hF0 0))) (rV (r_len underlying22 hv3) (rV (r_lss (k := .i64) (a := (k : Int)) (b := ((es.length : Nat) : Int)) rfl rfl) (RL.nil ?_))))))
   refine wcond (b := decide ((k : Int) < ((es.length : Nat) : Int))) rfl (fun hb18 => ?_) (fun hb18 => ?_)
   ·have hb18p := of_decide_eq_true hb18
    refine wskip ?_
    refine wseq ?_
    refine wblock ?_
    refine wseq ?_
    refine wdraw mixed fun w19 he20 => ?_
    replace hE := hE.nx he20
    refine ra 0 rfl (fun _ => r_move_as (v := vx) ((hoff16 0 rfl).trans ((hF13 0).trans (hF0 0)))) ?_
    refine ra 1 rfl (fun _ => r_move_as (v := (.int .i64 (k : Int))) hs17) ?_
    replace hx := hx.tr (Sm.ext he20)
    obtain ⟨b21, o22, c23, A26, B27, hv24, hc25, hx28, hd29, ln30, ln31⟩ := hx.ix (i := (k : Int)) (k) (by omega) (by omega)
    refine ra 2 rfl (fun _ => r_indexAddr (i := (k : Int)) underlying22 ty58 hv24 rfl (by omega) (by omega)) ?_
    refine ra 3 rfl (fun _ => r_fieldAddr underlying58 rfl ty3 rfl) ?_
    refine RA.rd 4 rfl (by kernel_rfl) rfl rfl rfl (by decide) (Ext.refl _) (fun u hu => r_load (v := (.int .i64 ((es.getD (k) default).1))) underlying3 ag3 rfl (cell_ext hu (hc25 0 _ rfl))) ?_
    refine ra 5 rfl (fun _ => r_move_as (v := vy) ((hoff16 1 rfl).trans ((hF13 1).trans (hF0 1)))) ?_
    refine ra 6 rfl (fun _ => r_move_as (v := (.int .i64 (k : Int))) hs17) ?_
    replace hy := hy.tr (Sm.ext he20)
    obtain ⟨b32, o33, c34, A37, B38, hv35, hc36, hx39, hd40, ln41, ln42⟩ := hy.ix (i := (k : Int)) (k) (by omega) (by omega)
    refine ra 7 rfl (fun _ => r_indexAddr (i := (k : Int)) underlying22 ty58 hv35 rfl (by omega) (by omega)) ?_
    refine ra 8 rfl (fun _ => r_fieldAddr underlying58 rfl ty3 rfl) ?_
    refine RA.rd 9 rfl (by kernel_rfl) rfl rfl rfl (by decide) (Ext.refl _) (fun u hu => r_load (v := (.int .i64 ((es.getD (k) default).1))) underlying3 ag3 rfl (cell_ext hu (hc36 0 _ rfl))) ?_
    refine ra 10 rfl (fun _ => r_neq (k := .i64) (a := (es.getD (k) default).1) (b := (es.getD (k) default).1) rfl rfl) ?_
    refine ra 11 rfl (fun _ => r_move_as (v := (.bool (decide (((es.getD (k) default).1) ≠ ((es.getD (k) default).1))))) rfl) ?_
    rcases Bool.eq_false_or_eq_true (decide (((es.getD (k) default).1) ≠ ((es.getD (k) default).1))) with hb43 | hb43
    ·have hb43p := of_decide_eq_true hb43
     exact absurd rfl hb43p
    ·have hb43p := of_decide_eq_false hb43
     refine RA.gtake 12 rfl (by kernel_rfl) rfl rfl (bool_eq hb43) rfl (by decide) (fun _ => r_move_as (v := vx) ((hoff16 0 rfl).trans ((hF13 0).trans (hF0 0)))) ?_
     refine RA.gtake 13 rfl (by kernel_rfl) rfl rfl (bool_eq hb43) rfl (by decide) (fun _ => r_move_as (v := (.int .i64 (k : Int))) hs17) ?_
     obtain ⟨b44, o45, c46, A49, B50, hv47, hc48, hx51, hd52, ln53, ln54⟩ := hx.ix (i := (k : Int)) (k) (by omega) (by omega)
     refine RA.gtake 14 rfl (by kernel_rfl) rfl rfl (bool_eq hb43) rfl (by decide) (fun _ => r_indexAddr (i := (k : Int)) underlying22 ty58 hv47 rfl (by omega) (by omega)) ?_
     refine RA.gtake 15 rfl (by kernel_rfl) rfl rfl (bool_eq hb43) rfl (by decide) (fun _ => r_fieldAddr underlying58 rfl ty44 rfl) ?_
     refine RA.grd 16 rfl (by kernel_rfl) rfl rfl rfl (bool_eq hb43) rfl (by decide) (Ext.refl _) (fun u hu => r_loada (cs := [(.bool (decide ((es.getD (k) default).2.num < 0))), (sv A49), (sv B50)]) underlying44 ag44 ty44 rfl (fun j v hj => cell_ext hu ((cdrop hc48 1) j v hj))) ?_
     refine RA.all [17] (by kernel_rfl) rfl ?_
     refine RS.gcall rfl rfl rfl (bool_eq hb43) rfl (by decide) (r_call (vl := [(.agg #[(.bool (decide ((es.getD (k) default).2.num < 0))), (sv A49), (sv B50)])]) ent42 rfl) (r03_cant hx51 hd52 (by omega) (by omega)) ?_ RS.nil
     rintro _ w55 ⟨rfl, he56⟩
     refine rm he56 ?_
     replace hE := hE.nx he56
     refine RA.gtake 18 rfl (by kernel_rfl) rfl rfl (bool_eq hb43) rfl (by decide) (fun _ => r_not rfl) ?_
     refine ra 19 rfl (fun _ => r_pick_f (v := (.bool false)) (bool_eq hb43) rfl) ?_
     refine ra 20 rfl (fun _ => r_move_as (v := (.bool false)) rfl) ?_
     refine RA.gtake 21 rfl (by kernel_rfl) rfl rfl rfl rfl (by decide) (fun _ => r_move_as (v := vx) ((hoff16 0 rfl).trans ((hF13 0).trans (hF0 0)))) ?_
     refine RA.gtake 22 rfl (by kernel_rfl) rfl rfl rfl rfl (by decide) (fun _ => r_move_as (v := (.int .i64 (k : Int))) hs17) ?_
     replace hx := hx.tr (Sm.ext he56)
     obtain ⟨b57, o58, c59, A62, B63, hv60, hc61, hx64, hd65, ln66, ln67⟩ := hx.ix (i := (k : Int)) (k) (by omega) (by omega)
     refine RA.gtake 23 rfl (by kernel_rfl) rfl rfl rfl rfl (by decide) (fun _ => r_indexAddr (i := (k : Int)) underlying22 ty58 hv60 rfl (by omega) (by omega)) ?_
     refine RA.gtake 24 rfl (by kernel_rfl) rfl rfl rfl rfl (by decide) (fun _ => r_fieldAddr underlying58 rfl ty44 rfl) ?_
     refine RA.grd 25 rfl (by kernel_rfl) rfl rfl rfl rfl rfl (by decide) (Ext.refl _) (fun u hu => r_loada (cs := [(.bool (decide ((es.getD (k) default).2.num < 0))), (sv A62), (sv B63)]) underlying44 ag44 ty44 rfl (fun j v hj => cell_ext hu ((cdrop hc61 1) j v hj))) ?_
     refine RA.gtake 26 rfl (by kernel_rfl) rfl rfl rfl rfl (by decide) (fun _ => r_move_as (v := vy) ((hoff16 1 rfl).trans ((hF13 1).trans (hF0 1)))) ?_
     refine RA.gtake 27 rfl (by kernel_rfl) rfl rfl rfl rfl (by decide) (fun _ => r_move_as (v := (.int .i64 (k : Int))) hs17) ?_
     replace hy := hy.tr (Sm.ext he56)
     obtain ⟨b68, o69, c70, A73, B74, hv71, hc72, hx75, hd76, ln77, ln78⟩ := hy.ix (i := (k : Int)) (k) (by omega) (by omega)
     refine RA.gtake 28 rfl (by kernel_rfl) rfl rfl rfl rfl (by decide) (fun _ => r_indexAddr (i := (k : Int)) underlying22 ty58 hv71 rfl (by omega) (by omega)) ?_
     refine RA.gtake 29 rfl (by kernel_rfl) rfl rfl rfl rfl (by decide) (fun _ => r_fieldAddr underlying58 rfl ty44 rfl) ?_
     refine RA.grd 30 rfl (by kernel_rfl) rfl rfl rfl rfl rfl (by decide) (Ext.refl _) (fun u hu => r_loada (cs := [(.bool (decide ((es.getD (k) default).2.num < 0))), (sv A73), (sv B74)]) underlying44 ag44 ty44 rfl (fun j v hj => cell_ext hu ((cdrop hc72 1) j v hj))) ?_
     refine RA.all [31] (by kernel_rfl) rfl ?_
     refine RS.gcall rfl rfl rfl rfl rfl (by decide) (r_call (vl := [(.agg #[(.bool (decide ((es.getD (k) default).2.num < 0))), (sv A62), (sv B63)]), (.agg #[(.bool (decide ((es.getD (k) default).2.num < 0))), (sv A73), (sv B74)])]) ent19 rfl) (r03_eqt hx64 hd65 hx75 hd76) ?_ RS.nil
     rintro _ w79 ⟨rfl, he80⟩
     refine rm he80 ?_
     replace hE := hE.nx he80
     refine RA.gtake 32 rfl (by kernel_rfl) rfl rfl rfl rfl (by decide) (fun _ => r_not rfl) ?_
     refine ra 33 rfl (fun _ => r_pick_f (v := (.bool false)) rfl rfl) ?_
     refine RA.done (by kernel_rfl) ?_
     refine wcond_f rfl ?_
     refine wskip ?_
     refine wregion (mV hs17 (rV (r_add (k := .i64) (a := (k : Int)) (b := 1) (c := (k : Int) + 1) rfl rfl (wi64 (by omega))) (aS (v := (.int .i64 ((k : Int) + 1))) rfl (RL.nil ?_))))
     replace hx := hx.tr (Sm.ext he80)
     replace hy := hy.tr (Sm.ext he80)
     refine ⟨(k + 1), ⟨?_, ?_, ?_, ?_, ?_, ?_⟩, ?_⟩
     · exact (by repeat (first | exact hoff16 | refine Off.st ?_ (by decide) _))
     · first | rfl | exact int_eq (by omega) | exact bool_eq (by simp)
     · omega
     · exact hx
     · exact hy
     · exact hE
     · (try dsimp only)
       omega
   ·have hb18p := of_decide_eq_false hb18
    refine wexit ?_
    refine wsr (aS (v := (.bool true)) rfl (RL.nil ?_))
    refine wret ?_
    refine ⟨[(.bool true)], ⟨rfl, trivial⟩, ?_⟩
    exact ⟨rfl, hE⟩
end Go.Proofs.YtffgajgibddfmaaGreat
namespace Go.Vg
open Go Go.RowKit Go.Vm
def Oz (L : Nat) (D : Nat → TypeId → Prop) (w : World) (lo : Nat) (T : TypeId) (v : Value) (es : List Ent') : Prop := ∃ xs, Ow w lo T 4 v xs.length (xs.map entC).flatten ∧ Fe (Ez L D w) xs es
section
variable {L L' : Nat} {D D' : Nat → TypeId → Prop} {w w' : World} {lo b : Nat} {T T' : TypeId} {v : Value} {es : List Ent'} {l : List Value}
theorem Oz.nil : Oz L D w lo T (.slice none 0 0) [] := ⟨[], Ow.nil lo 4, Fe.nil⟩
theorem Oz.ext (h : Oz L D w lo T v es) (e : Ext w w') : Oz L D w' lo T v es := by
  obtain ⟨xs, h1, h2⟩ := h
  exact ⟨xs, h1.ext e, h2.imp fun _ _ h => h.tr (Sm.ext e)⟩
theorem Oz.exo (h : Oz L D w lo T v es) (e : Exc b w w') (hne : v.ownBlock ≠ some b) (hb : Nb w b) : Oz L D w' lo T v es := by
  obtain ⟨xs, h1, h2⟩ := h
  exact ⟨xs, h1.exo e hne, h2.imp fun _ _ h => h.apn e hb⟩
theorem Oz.lt (h : Oz L D w lo T v es) (b : Nat) (hb : v.ownBlock = some b) : b < w.heap.size := by obtain ⟨xs, h1, h2⟩ := h; exact (World.ownsRow.lt h1 b hb).2
theorem Oz.one (h : Oz L D w lo T v es) : v.oneCell' = true := by obtain ⟨xs, h1, h2⟩ := h; exact h1.one
theorem Oz.len (h : Oz L D w lo T v es) : ∃ A c, v = .slice A es.length c ∧ es.length ≤ c ∧ c ≤ 9223372036854775807 := by obtain ⟨xs, h1, h2⟩ := h; rw [← h2.1]; exact h1.len
theorem Oz.gsm (h : Oz L D w lo T v es) (hg : w.grownBy w' v.ownBlock) (hD : ∀ b, lo ≤ b → ¬ D' b T) : Sm D' w w' := by obtain ⟨xs, h1, h2⟩ := h; exact h1.sm hg hD
theorem Oz.gbk (h : Oz L D w lo T v es) (hg : w.grownBy w' v.ownBlock) (hb : Bk w b T' l) (hne : T' ≠ T) : Bk w' b T' l := by obtain ⟨xs, h1, h2⟩ := h; exact h1.bk hg hb (.inr hne)
theorem Oz.gbo (_h : Oz L D w lo T v es) (hg : w.grownBy w' v.ownBlock) (hb : Bk w b T' l) (hne : v.ownBlock ≠ some b) : Bk w' b T' l := (hg.block b hb.lt (fun he => hne he.symm)).trans hb
theorem Oz.gbe {w0 : World} {B : Nat} (h : Oz L D w lo T v es) (hg : w.grownBy w' v.ownBlock) (hE : Below B w0 w) (hB : B ≤ lo) (hs : B ≤ w.heap.size) : Below B w0 w' := by
  obtain ⟨xs, h1, h2⟩ := h
  exact h1.below hg hE hB hs
theorem Oz.rd (h : Oz L D w lo T v es) (h1 : ∀ b, lo ≤ b → D' b T) (h2 : ∀ b T, D b T → D' b T) : Es L D' w v es := by
  obtain ⟨xs, g1, g2⟩ := h
  exact ⟨xs, g1.ss rfl rfl (by decide) (fun _ _ => rfl) h1, g2.imp fun _ _ h => h.mono h2⟩
end
section
variable {P : Program} {f : Nat → Value} {w : World} {dst : Option Tmp} {ty : TypeId} {pos : String} {aft : Array Edge} {g : Option (Nat × Bool)} {x y z : Operand} {t e : TypeId} {D D2 : Nat → TypeId → Prop}
theorem h_appendZ {L lo bytes : Nat} {zz v1 v2 : Value} {es : List Ent'} {i0 : Int} {s : Bool} {vn vd : Value} {q : Rat} (hu : P.underlying t = some (.slice e)) (ht : TyI P e 4 bytes zz) (hz : zz.cells.size = 4) (hx : ev f x = v1) (hy : ev f y = v2)
    (ho : Oz L D w lo e v1 es) (hs : Sc D2 w 4 v2 1 [.int .i64 i0, .bool s, vn, vd]) (hq : Rz L D w (s, vn, vd) q) (hD : ∀ b, lo ≤ b → ¬ D b e) (h63 : es.length + 1 ≤ maxLen) (hby : (es.length + 1) * bytes ≤ 140737488355328) (hlo : lo ≤ w.heap.size) :
    Run P f ⟨dst, .call ⟨.builtin .append, #[x, y], #[t, t]⟩, ty, pos, aft, g⟩ w fun v w' => Oz L D w' lo e v (es ++ [(i0, q)]) ∧ w.grownBy w' v1.ownBlock := by
  obtain ⟨A, B, rfl, rfl⟩ := hq.open'
  have ho' := ho
  obtain ⟨xs, h1, h2⟩ := ho
  obtain ⟨v, w', hr, h4, h5⟩ := h_append (P := P) (f := f) (dst := dst) (ty := ty) (pos := pos) (aft := aft) (g := g) hu ht hz (by decide) hx hy h1 hs (one_ent (i0, s, A, B)) (by rw [h2.1]; exact h63) (by rw [h2.1]; exact hby) hlo
  have hsm : Sm D w w' := ho'.gsm h5 hD
  refine ⟨v, w', hr, ⟨xs ++ [(i0, s, A, B)], ?_, (h2.imp fun _ _ h => h.tr hsm).snoc ⟨rfl, hq.tr hsm⟩⟩, h5⟩
  rw [List.length_append, List.length_singleton, List.map_append, List.flatten_append]
  simpa using h4
end
abbrev LC : Type := Int × Bool × Value × Value
abbrev litC : LC → List Value := fun c => [.int .i64 c.1, .bool c.2.1, c.2.2.1, c.2.2.2]
section
variable {L : Nat} {D D' : Nat → TypeId → Prop} {w : World} {b : Nat} {T : TypeId}
theorem lit_open {R : RC → Rat → Prop} (hR : ∀ c q, R c q → ∃ A B : SV, c.2.1 = sv A ∧ c.2.2 = sv B) : ∀ (l : List (LC × Rat)), (∀ p ∈ l, R p.1.2 p.2) → ∃ xs : List EC, (xs.map entC).flatten = ((l.map Prod.fst).map litC).flatten ∧ Fe (fun x e => x.1 = e.1 ∧ R (rcOf x) e.2) xs (l.map fun p => (p.1.1, p.2)) := by
  intro l
  induction l with
  | nil => intro _; exact ⟨[], rfl, Fe.nil⟩
  | cons p l ih =>
    intro h
    obtain ⟨xs, h1, h2⟩ := ih (fun q hq => h q (List.mem_cons_of_mem _ hq))
    obtain ⟨A, B, e1, e2⟩ := hR _ _ (h p (List.mem_cons_self ..))
    refine ⟨(p.1.1, p.1.2.1, A, B) :: xs, ?_, by simp [h2.1], fun k hk => ?_⟩
    · simp only [List.map_cons, List.flatten_cons, h1]
      rw [show entC (p.1.1, p.1.2.1, A, B) = litC p.1 by simp only [entC, litC]; rw [e1, e2]]
    · cases k with
      | zero =>
        refine ⟨rfl, ?_⟩
        have := h p (List.mem_cons_self ..)
        have e3 : p.1.2 = (p.1.2.1, sv A, sv B) := Prod.ext rfl (Prod.ext e1 e2)
        rw [e3] at this
        exact this
      | succ k =>
        have := h2.2 k (by simpa using hk)
        simpa [List.getD_eq_getElem?_getD] using this
theorem Es.lit (l : List (LC × Rat)) (hb : Bk w b T ((l.map Prod.fst).map litC).flatten) (hd : D b T) (hm : l.length ≤ 9223372036854775807) (h : ∀ p ∈ l, Rz L D w p.1.2 p.2) : Es L D w (.slice (some ⟨b, 0, none⟩) l.length l.length) (l.map fun p => (p.1.1, p.2)) := by
  obtain ⟨xs, h1, h2⟩ := lit_open (R := Rz L D w) (fun c q h => h.open') l h
  have hl : xs.length = l.length := by rw [h2.1]; simp
  rw [← h1] at hb
  have ha : Ae [] w b T xs l.length := ⟨by rw [List.append_nil]; exact hb, hl⟩
  exact ⟨xs, ha.ss hd (Nat.le_refl _) hm, h2⟩
theorem Ec.lit (l : List (LC × Rat)) (hb : Bk w b T ((l.map Prod.fst).map litC).flatten) (hd : D b T) (hm : l.length ≤ 9223372036854775807) (h : ∀ p ∈ l, Rk L D w p.1.2 p.2) : Ec L D w (.slice (some ⟨b, 0, none⟩) l.length l.length) (l.map fun p => (p.1.1, p.2)) := by
  obtain ⟨xs, h1, h2⟩ := lit_open (R := Rk L D w) (fun c q h => h.open') l h
  have hl : xs.length = l.length := by rw [h2.1]; simp
  rw [← h1] at hb
  have ha : Ae [] w b T xs l.length := ⟨by rw [List.append_nil]; exact hb, hl⟩
  exact ⟨xs, ha.ss hd (Nat.le_refl _) hm, h2⟩
end
end Go.Vg
namespace Go.Proofs.YtffgajgibddfmaaGreat
open Go.Vg Go.RowKit _root_.Go.Proofs.Tryz
set_option linter.unusedVariables false
open Go.Vm
def shE (e : Ent') : Ent' := (modF e.1 9 - 1, e.2)
def shL (es : List Ent') : List Ent' := (es.take 40).map shE
theorem shL_len (es : List Ent') : (shL es).length ≤ 40 := by unfold shL; rw [List.length_map, List.length_take]; omega
set_option maxHeartbeats 1000000 in
theorem h_first {w : World} {L : Nat} {Des : Nat → TypeId → Prop} {ves : Value} {es : List Ent'} (hes0 : Es L Des w ves es) {n : Nat} (hn : n ≤ 1048576) :
    Calls Tryz.prog 34 #[ves, (.int .i64 (n : Int))] w fun e w' => ∃ v, e = .returned v ∧ Es L Des w' v (es.take n) ∧ Ext w w' := by
 have hE : Below w.heap.size w w := Below.refl _ _
 have hes := hes0.old
 clear hes0
 refine calls_of (n := 13) (rs := [.tmp 4]) func34 rfl rfl rfl (Nat.le_of_ble_eq_true rfl) ?_
 refine wset fun F0 hF0 => ?_
 refine wsr (aS (v := (.slice none (0) (0))) rfl (RL.nil (wseq (wsr (mV (v := ves) (hF0 0) ?_)))))
 obtain ⟨A1, c2, hv3, hc4, hc5⟩ := hes.len
 refine rV (r_len underlying22 hv3) (mV (v := (.int .i64 (n : Int))) (hF0 1) (rV (r_gtr (k := .i64) (a := ((es.length : Nat) : Int)) (b := (n : Int)) rfl rfl) (RL.nil ?_)))
 refine wcond (b := decide ((n : Int) < ((es.length : Nat) : Int))) rfl (fun hb6 => ?_) (fun hb6 => ?_)
 ·have hb6p := of_decide_eq_true hb6
  refine wsr (mV (v := ves) (hF0 0) (mV (v := (.int .i64 (n : Int))) (hF0 1) ?_))
  have r7 := hes.take (n) (by omega) hv3
  refine rV (r_sh (h := (n : Int)) (kk := n) underlying22 ty58 hv3 rfl (by omega) (by omega)) (aS (v := (.slice A1 (n) (c2))) rfl (RL.nil ?_))
  refine wret ?_
  refine ⟨[(.slice A1 (n) (c2))], ⟨rfl, trivial⟩, ?_⟩
  exact ⟨r7.mono (fun _ _ h => h.1), hE⟩
 ·have hb6p := of_decide_eq_false hb6
  refine wskip ?_
  refine wsr (mV (v := ves) (hF0 0) (aS (v := ves) rfl (RL.nil ?_)))
  refine wret ?_
  refine ⟨[ves], ⟨rfl, trivial⟩, ?_⟩
  rw [List.take_of_length_le (by omega)]
  exact ⟨hes.mono (fun _ _ h => h.1), hE⟩
set_option maxHeartbeats 1000000 in
theorem l_short {w : World} {L : Nat} {Des : Nat → TypeId → Prop} {ves : Value} {es : List Ent'} (hes0 : Es L Des w ves es) :
    Calls Tryz.prog 8 #[ves] w fun e w' => ∃ v, e = .returned v ∧ Es L (fun b T => (Des b T ∧ b < w.heap.size) ∨ w.heap.size ≤ b) w' v (shL es) ∧ Ext w w' := by
 have hE : Below w.heap.size w w := Below.refl _ _
 have hes := hes0.old
 clear hes0
 have hlo : w.heap.size ≤ w.heap.size := Nat.le_refl _
 have hfl : (es.take 40).length ≤ 40 := by rw [List.length_take]; omega
 refine calls_of (n := 25) (rs := [.tmp 2]) func8 rfl rfl rfl (Nat.le_of_ble_eq_true rfl) ?_
 refine wset fun F0 hF0 => ?_
 refine wsr (aS (v := (.slice none (0) (0))) rfl (RL.nil (wsr (aS (v := (.slice none (0) (0))) rfl (RL.nil (wseq (wsr (mV (v := ves) (hF0 0) ?_))))))))
 refine cL (vl := [ves, (.int .i64 40)]) ent34 (h_first (n := 40) hes (by decide)) rfl ?_
 rintro vf3 w1 ⟨hr4, he2⟩
 replace hE := hE.nx he2
 obtain ⟨A5, c6, hv7, hc8, hc9⟩ := hr4.len
 refine rV (r_len underlying22 hv7) (mV (v := (.int .i64 0)) rfl (RL.nil ?_))
 refine wblock ?_
 refine wset fun F10 hF11 => ?_
 refine wloop (σ := Nat × Value) (fun (s : Nat × Value) fl wl => match s with | (k, vr) => Off [3, 5, 9, 10, 11, 12, 13, 14, 15, 16, 17, 18, 19, 20, 21, 22, 23] F10 fl ∧ fl 9 = (.int .i64 (k : Int)) ∧ fl 3 = vr ∧ (k ≤ (es.take 40).length) ∧ (Oz L (fun b T => Des b T ∧ b < w.heap.size) wl w.heap.size 58 vr (((es.take 40).take k).map shE)) ∧ (Es L (fun b T => Des b T ∧ b < w.heap.size) wl ves es) ∧ (Below w.heap.size w wl) ∧ (Es L (fun b T => Des b T ∧ b < w.heap.size) wl vf3 (es.take 40))) (fun (s : Nat × Value) => match s with | (k, vr) => (es.take 40).length - k) (0, (.slice none 0 0)) ?_ ?_
 ·replace hes := hes.tr (Sm.ext he2)
  exact ⟨Off.refl _ _, (hF11 9).trans (rfl), (hF11 3).trans (rfl), Nat.zero_le _, Oz.nil, hes, hE, hr4⟩
 ·clear hes hE hr4
  rintro ⟨k, vr⟩ f12 w13 ⟨hoff14, hs15, hs16, hk, hR, hes, hE, hr4⟩
  refine wsr (rV (r_lss (k := .i64) (a := (k : Int)) (b := (((es.take 40).length : Nat) : Int)) hs15 ((hoff14 8 rfl).trans (hF11 8))) (RL.nil (wseq ?_)))
  refine wcond (b := decide ((k : Int) < (((es.take 40).length : Nat) : Int))) rfl (fun hb17 => ?_) (fun hb17 => ?_)
  ·have hb17p := of_decide_eq_true hb17
   refine wskip ?_
   refine wseq ?_
   refine wblock ?_
   refine wsr ?_
   obtain ⟨b18, o19, c20, s25, A23, B24, x26, d27, hv21, hc22, hx28, lm29, ln30, hd31, lm32, ln33, eq34⟩ := hr4.ix (i := (k : Int)) (k) (by omega) (by omega)
   refine rV (r_indexAddr (i := (k : Int)) underlying22 ty58 ((((hoff14 7 rfl).trans (hF11 7))).trans hv21) hs15 (by omega) (by omega)) (rV (r_loada (cs := [(.int .i64 (((es.take 40).getD (k) default).1)), (.bool s25), (sv A23), (sv B24)]) underlying58 ag58 ty58 rfl hc22) ?_)
   refine rU (h_alloc (cs := [(.int .i64 0), (.bool false), (.slice none 0 0), (.slice none 0 0)]) ty58 rfl) ?_
   rintro _ w35 ⟨b36, rfl, hs39, hb38, he37⟩
   have ge_b36 := hE.ge hs39
   have on_vr_b36 : vr.ownBlock ≠ some b36 := fun h => absurd (hR.lt _ h) (by rw [hs39]; exact Nat.lt_irrefl _)
   replace hE := hE.nx he37
   refine RL.runs rfl rfl (h_store (vv := (.agg #[(.int .i64 (((es.take 40).getD (k) default).1)), (.bool s25), (sv A23), (sv B24)])) (cs := [(.int .i64 (((es.take 40).getD (k) default).1)), (.bool s25), (sv A23), (sv B24)]) (o := 0) ty58 rfl rfl rfl rfl (one_cons rfl (one_cons rfl (one_cons hx28.one (one_cons hd31.one one_nil)))) hb38 (Nat.le_of_ble_eq_true rfl)) ?_
   rintro w40 ⟨hn41, hx42, hz43⟩
   replace hE := hE.nb hx42 ge_b36
   have nb_hx42 := (Nb.of hb38 (nu_cons rfl (nu_cons rfl (nu_cons rfl (nu_cons rfl nu_nil)))))
   replace hb38 : Bk w40 b36 58 [(.int .i64 (((es.take 40).getD (k) default).1)), (.bool s25), (sv A23), (sv B24)] := hn41
   refine RL.nil ?_
   have hskl : (((es.take 40).take k).map shE).length = k := by rw [List.length_map, List.length_take]; omega
   refine wdraw mixed fun w44 he45 => ?_
   replace hE := hE.nx he45
   refine ra 0 rfl (fun _ => r_move_as (v := vr) hs16) ?_
   refine ra 1 rfl (fun _ => r_fieldAddr underlying58 rfl ty3 rfl) ?_
   replace hb38 := hb38.ext he45
   have hc46 := hb38.cell (j := 0) (u := (.int .i64 (((es.take 40).getD (k) default).1))) rfl
   refine RA.rd 2 rfl (by kernel_rfl) rfl rfl rfl (by decide) (Ext.refl _) (fun u hu => r_load underlying3 ag3 rfl (cell_ext hu hc46)) ?_
   refine ra 5 rfl (fun _ => r_fieldAddr underlying58 rfl ty44 rfl) ?_
   have hc47 := hb38.cells (o := 1) (cs := [(.bool s25), (sv A23), (sv B24)]) rfl
   refine RA.rd 6 rfl (by kernel_rfl) rfl rfl rfl (by decide) (Ext.refl _) (fun u hu => r_loada (o := 1) (cs := [(.bool s25), (sv A23), (sv B24)]) underlying44 ag44 ty44 rfl (fun j v hj => cell_ext hu (hc47 j v hj))) ?_
   refine RA.all [3] (by kernel_rfl) rfl ?_
   refine RS.call rfl rfl rfl (by decide) (r_call (vl := [(.int .i64 (((es.take 40).getD (k) default).1)), (.int .i64 9)]) ent35 rfl) (mod_spec _ (by omega) (by omega)) ?_ RS.nil
   rintro _ _ ⟨rfl, rfl⟩
   refine rm (Ext.refl _) ?_
   have hmr := modF_range ((es.take 40).getD (k) default).1 9 (by decide)
   refine ra 4 rfl (fun _ => r_sub (k := .i64) (a := modF (((es.take 40).getD (k) default).1) 9) (b := 1) (c := (modF (((es.take 40).getD (k) default).1) 9) - 1) rfl rfl (wi64 (by omega))) ?_
   refine ra 7 rfl (fun _ => r_build (vl := [(0, (.int .i64 ((modF (((es.take 40).getD (k) default).1) 9) - 1))), (1, (.agg #[(.bool s25), (sv A23), (sv B24)]))]) (cs := [(.int .i64 ((modF (((es.take 40).getD (k) default).1) 9) - 1)), (.bool s25), (sv A23), (sv B24)]) underlying58 ty58 rfl (pl58 underlying58) rfl) ?_
   refine RA.all [8] (by kernel_rfl) rfl ?_
   refine RS.run rfl rfl rfl (by decide) (h_lit (vl := [(0, (.agg #[(.int .i64 ((modF (((es.take 40).getD (k) default).1) 9) - 1)), (.bool s25), (sv A23), (sv B24)]))]) (cs := [(.int .i64 ((modF (((es.take 40).getD (k) default).1) 9) - 1)), (.bool s25), (sv A23), (sv B24)]) underlying22 ty58 rfl (by decide) (by first | (simp [Instr.fill, Value.cells]; done) | rfl | kernel_rfl)) ?_ RS.nil
   rintro _ w49 ⟨b50, rfl, hs53, hb52, he51⟩
   refine rm he51 ?_
   have lt_b36_b50 := Nat.lt_of_lt_of_eq hb38.lt hs53.symm
   have ge_b50 := hE.ge hs53
   replace hR := ((hR.ext he37).exo hx42 on_vr_b36 nb_hx42).ext he45
   have on_vr_b50 : vr.ownBlock ≠ some b50 := fun h => absurd (hR.lt _ h) (by rw [hs53]; exact Nat.lt_irrefl _)
   replace hE := hE.nx he51
   refine RA.all [9] (by kernel_rfl) rfl ?_
   replace hR := hR.ext he51
   replace hx28 := ((hx28.tr (Sm.ext he37)).apn hx42 nb_hx42).tr (Sm.ext (Ext.trans he45 he51))
   replace hd31 := ((hd31.tr (Sm.ext he37)).apn hx42 nb_hx42).tr (Sm.ext (Ext.trans he45 he51))
   refine RS.run rfl rfl rfl (by decide) (h_appendZ (v1 := vr) (v2 := (.slice (some ⟨b50, 0, none⟩) (1) (1))) (q := ((es.take 40).getD (k) default).2) underlying22 ty58 rfl rfl rfl hR (hb52.sc (D := fun _ _ => True) trivial rfl (by decide)) (Rz.of (L := L) hx28 lm29 (by omega) hd31 lm32 (by omega) (show ratOf s25 (val x26) (val d27) = ((es.take 40).getD (k) default).2 from eq34)) (fun b hb hd => absurd hd.2 (Nat.not_lt_of_le hb)) (by simp only [maxLen]; omega) (by omega) hE.size) ?_ RS.nil
   rintro v55 w54 ⟨ho56, hg57⟩
   refine ⟨.inr (.inl (by kernel_rfl)), ?_⟩
   replace hE := hR.gbe hg57 hE hlo hE.size
   refine ra 10 rfl (fun _ => r_assign_as (v := v55) rfl) ?_
   refine RA.done (by kernel_rfl) ?_
   refine wregion (rV (r_add (k := .i64) (a := (k : Int)) (b := 1) (c := (k : Int) + 1) hs15 rfl (wi64 (by omega))) (mV (v := (.int .i64 ((k : Int) + 1))) rfl (RL.nil ?_)))
   replace hes := (((hes.tr (Sm.ext he37)).tr (Sm.exc hx42 (fun _ _ _ _ hd => absurd hd.2 (Nat.not_lt_of_le ge_b36)))).tr (Sm.ext (Ext.trans he45 he51))).tr (hR.gsm hg57 (fun b hb hd => absurd hd.2 (Nat.not_lt_of_le (Nat.le_trans hlo hb))))
   replace hr4 := (((hr4.tr (Sm.ext he37)).tr (Sm.exc hx42 (fun _ _ _ _ hd => absurd hd.2 (Nat.not_lt_of_le ge_b36)))).tr (Sm.ext (Ext.trans he45 he51))).tr (hR.gsm hg57 (fun b hb hd => absurd hd.2 (Nat.not_lt_of_le (Nat.le_trans hlo hb))))
   refine ⟨(k + 1, v55), ⟨?_, ?_, ?_, ?_, ?_, ?_, ?_, ?_⟩, ?_⟩
   · exact (by repeat (first | exact hoff14 | refine Off.st ?_ (by decide) _))
   · first | rfl | exact int_eq (by omega) | exact bool_eq (by simp)
   · first | rfl | exact int_eq (by omega) | exact bool_eq (by simp)
   · omega
   · rw [take_snoc (es.take 40) k (by omega), List.map_append]; exact ho56
   · exact hes
   · exact hE
   · exact hr4
   · (try dsimp only)
     omega
  ·have hb17p := of_decide_eq_false hb17
   refine wexit ?_
   refine wseq ?_
   have hke : (es.take 40).take k = es.take 40 := List.take_of_length_le (by omega)
   refine wregion (mV hs16 (aS (v := vr) rfl (RL.nil ?_)))
   refine wret ?_
   refine ⟨[vr], ⟨rfl, trivial⟩, ?_⟩
   have hR2 := hR
   rw [hke] at hR2
   exact ⟨hR2.rd (fun _ h => .inr h) (fun _ _ h => .inl h), hE⟩
end Go.Proofs.YtffgajgibddfmaaGreat
namespace Go.Proofs.YtffgajgibddfmaaGreat
open Go.Vg Go.RowKit _root_.Go.Proofs.Tryz
set_option linter.unusedVariables false
open Go.Vm
def IsP (p : List Int) : Prop := (∀ x ∈ p, 0 ≤ x ∧ x < (p.length : Int)) ∧ p.Nodup
theorem isp_no {p : List Int} {k : Nat} (hk : k < p.length) (h : ¬ (0 ≤ p.getD k default ∧ p.getD k default < (p.length : Int))) : ¬ IsP p := fun hp => h (hp.1 _ (getD_mem _ _ hk))
theorem isp_dup {p : List Int} {k : Nat} (hk : k < p.length) (h : p.getD k default ∈ p.take k) : ¬ IsP p := fun hp => by
  have h1 : (p.take (k + 1)).Nodup := List.Nodup.sublist (List.take_sublist _ _) hp.2
  rw [take_snoc p k hk, List.nodup_append] at h1
  exact h1.2.2 _ h _ (by simp) rfl
theorem seen_next {p : List Int} {sn : List Bool} {k n : Nat} (hk : k < p.length) (h0 : 0 ≤ p.getD k default) (h1 : p.getD k default < (n : Int)) (hn : sn.length = n) (hs : ∀ i, i < n → sn.getD i default = decide ((i : Int) ∈ p.take k)) : ∀ i, i < n → (sn.set (p.getD k default).toNat true).getD i default = decide ((i : Int) ∈ p.take (k + 1)) := fun i hi => by
  rw [take_snoc p k hk]
  by_cases h : (p.getD k default).toNat = i
  · have : (i : Int) = p.getD k default := by omega
    rw [decide_eq_true (by rw [this]; simp), h]
    simp [List.getD_eq_getElem?_getD, List.getElem?_set, hn, hi]
  · have h2 : (i : Int) ≠ p.getD k default := by omega
    have e1 : (sn.set (p.getD k default).toNat true).getD i default = sn.getD i default := by
      generalize (p.getD k default).toNat = m at h
      simp [List.getD_eq_getElem?_getD, List.getElem?_set, h]
    rw [e1, hs i hi]
    simp only [List.mem_append, List.mem_singleton, h2, or_false]
set_option maxHeartbeats 1000000 in
theorem v_isp {w : World} {Dp : Nat → TypeId → Prop} {vp : Value} {p : List Int} (hp0 : Sg (gI .i64) Dp w vp p) (lnp : p.length ≤ 1048576) :
    Calls Tryz.prog 36 #[vp] w fun e w' => ∃ v, e = .returned v ∧ (∃ r : Bool, v = .bool r ∧ (r = true ↔ IsP p)) ∧ Ext w w' := by
 have hE : Below w.heap.size w w := Below.refl _ _
 have hp := hp0.old
 clear hp0
 refine calls_of (n := 33) (rs := [.tmp 2]) func36 rfl rfl rfl (Nat.le_of_ble_eq_true rfl) ?_
 refine wset fun F0 hF0 => ?_
 refine wsr (aS (v := (.bool false)) rfl (RL.nil (wsr (mV (v := vp) (hF0 0) ?_))))
 obtain ⟨A1, c2, hv3, hc4, hc5⟩ := hp.len
 refine rV (r_len underlying23 hv3) ?_
 have hn11 : (((p.length : Nat) : Int) : Int) = ((p.length : Nat) : Int) := by omega
 refine rU (h_make1 (n := p.length) underlying83 ty4 rfl (int_eq hn11) (int_eq hn11) (by omega) (by omega)) ?_
 rintro _ w6 ⟨b7, rfl, hs10, hb9, he8⟩
 have ge_b7 := hE.ge hs10
 replace hE := hE.nx he8
 replace hb9 := Af.made (g := gB) (z := false) hb9 rfl
 refine aS (v := (.slice (some ⟨b7, 0, none⟩) (p.length) (p.length))) rfl (RL.nil (wseq (wsr (mV (v := vp) (hF0 0) (rV (r_len underlying23 hv3) (mV (v := (.int .i64 0)) rfl (RL.nil ?_)))))))
 refine wblock ?_
 refine wset fun F12 hF13 => ?_
 refine wloop (σ := Nat × List Bool) (fun (s : Nat × List Bool) fl wl => match s with | (k, sn) => Off [2, 5, 11, 12, 13, 14, 15, 16, 17, 18, 19, 20, 21, 22, 23, 24, 25, 26, 27, 28, 29, 30, 31, 32] F12 fl ∧ fl 11 = (.int .i64 (k : Int)) ∧ (k ≤ p.length) ∧ (∀ x ∈ p.take k, 0 ≤ x ∧ x < (p.length : Int)) ∧ ((p.take k).Nodup) ∧ (∀ i, i < p.length → sn.getD i default = decide ((i : Int) ∈ p.take k)) ∧ (sn.length = p.length) ∧ (Af (gB) wl b7 4 sn p.length) ∧ (Sg (gI .i64) (fun b T => Dp b T ∧ b < w.heap.size) wl vp p) ∧ (Below w.heap.size w wl)) (fun (s : Nat × List Bool) => match s with | (k, sn) => p.length - k) (0, List.replicate p.length false) ?_ ?_
 ·replace hp := hp.tr (Sm.ext he8)
  exact ⟨Off.refl _ _, (hF13 11).trans (rfl), Nat.zero_le _, (fun x hx => by simp at hx), by simp, (fun i hi => by simp [List.getD_eq_getElem?_getD, hi]), by simp, hb9, hp, hE⟩
 ·clear hp hE hb9
  rintro ⟨k, sn⟩ f14 w15 ⟨hoff16, hs17, hk, hr, hnd, hs, hsl, hb9, hp, hE⟩
  refine wsr (rV (r_lss (k := .i64) (a := (k : Int)) (b := ((p.length : Nat) : Int)) hs17 ((hoff16 10 rfl).trans (hF13 10))) (RL.nil (wseq ?_)))
  refine wcond (b := decide ((k : Int) < ((p.length : Nat) : Int))) rfl (fun hb18 => ?_) (fun hb18 => ?_)
  ·have hb18p := of_decide_eq_true hb18
   refine wskip ?_
   refine wseq ?_
   refine wblock ?_
   refine wseq ?_
   have hkl : k < p.length := by omega
   refine wregion ?_
   obtain ⟨b19, o20, c21, hv22, hc23⟩ := hp.ix (i := (k : Int)) (k) (by omega) (by omega)
   refine rV (r_indexAddr (i := (k : Int)) underlying23 ty3 ((((hoff16 9 rfl).trans (hF13 9))).trans hv22) hs17 (by omega) (by omega)) (rV (r_load (v := (.int .i64 (p.getD (k) default))) underlying3 ag3 rfl hc23) (aS (v := (.int .i64 (p.getD (k) default))) rfl (RL.nil (wseq (wsr (mV (v := (.int .i64 (p.getD (k) default))) rfl (rV (r_lss (k := .i64) (a := p.getD (k) default) (b := 0) rfl rfl) (mV (v := (.bool (decide ((p.getD (k) default) < 0)))) rfl ?_))))))))
   rcases Bool.eq_false_or_eq_true (decide ((p.getD (k) default) < 0)) with hb24 | hb24
   ·have hb24p := of_decide_eq_true hb24
    have hbad := hb24p
    refine RL.gno rfl rfl (bool_eq hb24) rfl (by decide) ?_
    refine RL.gno rfl rfl (bool_eq hb24) rfl (by decide) ?_
    refine RL.gno rfl rfl (bool_eq hb24) rfl (by decide) ?_
    refine RL.gno rfl rfl (bool_eq hb24) rfl (by decide) ?_
    refine rV (r_pick_t (v := (.bool true)) (bool_eq hb24) rfl) (mV (v := (.bool true)) rfl ?_)
    refine RL.gno rfl rfl rfl rfl (by decide) ?_
    refine RL.gno rfl rfl rfl rfl (by decide) ?_
    refine RL.gno rfl rfl rfl rfl (by decide) ?_
    refine RL.gno rfl rfl rfl rfl (by decide) ?_
    refine rV (r_pick_t (v := (.bool true)) rfl rfl) (RL.nil ?_)
    refine wcond_t rfl ?_
    refine wsr (aS (v := (.bool false)) rfl (RL.nil ?_))
    refine wret ?_
    refine ⟨[(.bool false)], ⟨rfl, trivial⟩, ?_⟩
    exact ⟨⟨_, rfl, (fun h => by cases h), fun h => absurd h (by first | exact isp_dup hkl hin | exact isp_no hkl (by omega))⟩, hE⟩
   ·have hb24p := of_decide_eq_false hb24
    have hlow := hb24p
    refine RL.gval rfl rfl (bool_eq hb24) rfl (by decide) (r_move_as (v := (.int .i64 (p.getD (k) default))) rfl) ?_
    refine RL.gval rfl rfl (bool_eq hb24) rfl (by decide) (r_move_as (v := vp) ((hoff16 0 rfl).trans ((hF13 0).trans (hF0 0)))) ?_
    refine RL.gval rfl rfl (bool_eq hb24) rfl (by decide) (r_len underlying23 hv3) ?_
    refine RL.gval rfl rfl (bool_eq hb24) rfl (by decide) (r_geq (k := .i64) (a := p.getD (k) default) (b := ((p.length : Nat) : Int)) rfl rfl) ?_
    refine rV (r_pick_f (v := (.bool (decide (((p.length : Nat) : Int) ≤ (p.getD (k) default))))) (bool_eq hb24) rfl) (mV (v := (.bool (decide (((p.length : Nat) : Int) ≤ (p.getD (k) default))))) rfl ?_)
    rcases Bool.eq_false_or_eq_true (decide (((p.length : Nat) : Int) ≤ (p.getD (k) default))) with hb25 | hb25
    ·have hb25p := of_decide_eq_true hb25
     have hbad := hb25p
     refine RL.gno rfl rfl (bool_eq hb25) rfl (by decide) ?_
     refine RL.gno rfl rfl (bool_eq hb25) rfl (by decide) ?_
     refine RL.gno rfl rfl (bool_eq hb25) rfl (by decide) ?_
     refine RL.gno rfl rfl (bool_eq hb25) rfl (by decide) ?_
     refine rV (r_pick_t (v := (.bool true)) (bool_eq hb25) rfl) (RL.nil ?_)
     refine wcond_t rfl ?_
     refine wsr (aS (v := (.bool false)) rfl (RL.nil ?_))
     refine wret ?_
     refine ⟨[(.bool false)], ⟨rfl, trivial⟩, ?_⟩
     exact ⟨⟨_, rfl, (fun h => by cases h), fun h => absurd h (by first | exact isp_dup hkl hin | exact isp_no hkl (by omega))⟩, hE⟩
    ·have hb25p := of_decide_eq_false hb25
     have hhigh := hb25p
     refine RL.gval rfl rfl (bool_eq hb25) rfl (by decide) (r_move_as (v := (.slice (some ⟨b7, 0, none⟩) (p.length) (p.length))) ((hoff16 3 rfl).trans (hF13 3))) ?_
     refine RL.gval rfl rfl (bool_eq hb25) rfl (by decide) (r_move_as (v := (.int .i64 (p.getD (k) default))) rfl) ?_
     refine RL.gval rfl rfl (bool_eq hb25) rfl (by decide) (r_indexAddr (i := p.getD (k) default) underlying83 ty4 rfl rfl (by omega) (by omega)) ?_
     have hc26 := hb9.cell (i := p.getD (k) default) ((p.getD (k) default).toNat) (by omega) (by omega)
     refine RL.gval rfl rfl (bool_eq hb25) rfl (by decide) (r_load (v := (.bool (sn.getD ((p.getD (k) default).toNat) default))) underlying4 ag4 rfl hc26) ?_
     refine rV (r_pick_f (v := (.bool (sn.getD ((p.getD (k) default).toNat) default))) (bool_eq hb25) rfl) (RL.nil ?_)
     refine wcond (b := sn.getD ((p.getD (k) default).toNat) default) rfl (fun hb27 => ?_) (fun hb27 => ?_)
     ·have hb27p := hb27
      have hsk := hb27p
      rw [hs _ (by omega)] at hsk
      have hin := of_decide_eq_true hsk
      rw [show (((p.getD (k) default).toNat : Nat) : Int) = p.getD k default by omega] at hin
      refine wsr (aS (v := (.bool false)) rfl (RL.nil ?_))
      refine wret ?_
      refine ⟨[(.bool false)], ⟨rfl, trivial⟩, ?_⟩
      exact ⟨⟨_, rfl, (fun h => by cases h), fun h => absurd h (by first | exact isp_dup hkl hin | exact isp_no hkl (by omega))⟩, hE⟩
     ·have hb27p := hb27
      have hsk := hb27p
      rw [hs _ (by omega)] at hsk
      have hni := of_decide_eq_false hsk
      rw [show (((p.getD (k) default).toNat : Nat) : Int) = p.getD k default by omega] at hni
      refine wskip ?_
      refine wregion (mV (v := (.slice (some ⟨b7, 0, none⟩) (p.length) (p.length))) ((hoff16 3 rfl).trans (hF13 3)) (mV (v := (.int .i64 (p.getD (k) default))) rfl (rV (r_indexAddr (i := p.getD (k) default) underlying83 ty4 rfl rfl (by omega) (by omega)) ?_)))
      refine RL.runs rfl rfl (h_setF (g := gB) (vv := (.bool true)) (u := true) (i := p.getD (k) default) ty4 rfl rfl rfl rfl rfl hb9 ((p.getD (k) default).toNat) (by omega) (by omega)) ?_
      rintro w28 ⟨ha29, hx30⟩
      replace hE := hE.nb hx30 ge_b7
      have nb_hx30 := (hb9.nb (fun _ => rfl))
      replace hb9 := ha29
      refine RL.nil (wregion (rV (r_add (k := .i64) (a := (k : Int)) (b := 1) (c := (k : Int) + 1) hs17 rfl (wi64 (by omega))) (mV (v := (.int .i64 ((k : Int) + 1))) rfl (RL.nil ?_))))
      replace hp := hp.tr (Sm.exc hx30 (fun _ _ _ _ hd => absurd hd.2 (Nat.not_lt_of_le ge_b7)))
      refine ⟨(k + 1, sn.set (p.getD (k) default).toNat true), ⟨?_, ?_, ?_, ?_, ?_, ?_, ?_, ?_, ?_, ?_⟩, ?_⟩
      · exact (by repeat (first | exact hoff16 | refine Off.st ?_ (by decide) _))
      · first | rfl | exact int_eq (by omega) | exact bool_eq (by simp)
      · omega
      · rw [take_snoc p k hkl]; intro x hx; rcases List.mem_append.1 hx with h | h; exact hr x h; rw [List.mem_singleton.1 h]; exact ⟨by omega, by omega⟩
      · rw [take_snoc p k hkl, List.nodup_append]; exact ⟨hnd, by simp, fun a ha b hb => by rw [List.mem_singleton.1 hb]; exact fun he => hni (he ▸ ha)⟩
      · exact seen_next hkl (by omega) (by omega) hsl hs
      · rw [List.length_set]; exact hsl
      · exact hb9
      · exact hp
      · exact hE
      · (try dsimp only)
        omega
  ·have hb18p := of_decide_eq_false hb18
   refine wexit ?_
   refine wsr (aS (v := (.bool true)) rfl (RL.nil ?_))
   refine wret ?_
   refine ⟨[(.bool true)], ⟨rfl, trivial⟩, ?_⟩
   rw [List.take_of_length_le (by omega)] at hr hnd
   exact ⟨⟨_, rfl, (fun _ => ⟨hr, hnd⟩), fun _ => rfl⟩, hE⟩
end Go.Proofs.YtffgajgibddfmaaGreat
namespace Go.Proofs.YtffgajgibddfmaaGreat
open Go.Vg Go.RowKit Go.Shelf _root_.Go.Proofs.Tryz
def rhoL : Ren := ⟨fun n => if n = 125 then 63 else if n = 128 then 98 else if n = 129 then 99 else 0, fun n => if n = 3 then 3 else if n = 4 then 4 else if n = 5 then 5 else if n = 9 then 9 else if n = 46 then 86 else if n = 51 then 96 else if n = 53 then 82 else 0, fun x => x⟩
theorem lays125 : Lays.n125 Tryz.prog rhoL := by
  constructor <;> first | kernel_rfl | (intro w; kernel_rfl)
theorem len_spec {x : Int} (w : World) (h0 : 0 ≤ x) (h1 : x ≤ 18446744073709551615) : Calls Tryz.prog 63 #[.int .u64 x] w fun e w' => ∃ v, e = .returned v ∧ (∃ s : Nat, v = .int .i64 (s : Int)) ∧ w = w' := by
  refine (Any.bits_Len lays125 x w h0 h1).mono ?_
  rintro e w' ⟨rfl, rfl⟩
  exact ⟨_, rfl, ⟨_, rfl⟩, rfl⟩
end Go.Proofs.YtffgajgibddfmaaGreat
namespace Go.Proofs.YtffgajgibddfmaaGreat
open Go.Vg Go.RowKit _root_.Go.Proofs.Tryz
set_option linter.unusedVariables false
open Go.Vm
set_option maxHeartbeats 1000000 in
theorem pdq_ent {post : List Value} {b n cap : Nat} {xs : List EC} {w : World} {kc : Nat} {cl : List Value} {key : EC → Int} {ok : EC → Prop} {w0 : World} (hent : Ent Tryz.prog kc) (hcmp : CmpOk Tryz.prog kc cl encE key ok b w0) (hw0 : Exc b w0 w) {lim : Int} (ha : Ae post w b 58 xs n) (hsz : n ≤ 4611686018427387903) (hok : ∀ x ∈ xs, ok x) (h12 : n ≤ 12) :
    Calls Tryz.prog 62 #[(.slice (some ⟨b, 0, none⟩) (n) (cap)), (.int .i64 0), (.int .i64 (n : Int)), (.int .i64 (lim)), (.func (.func kc) #[] cl.toArray)] w fun e w' => ∃ v, e = .returned v ∧ v = .tuple #[] ∧ (∃ l, Ae post w' b 58 l n ∧ Srt key l ∧ StE key xs l) ∧ Exc b w w' := by
 have hE : Exc b w w := Exc.of_ext (Ext.refl _)
 refine calls_of (n := 148) (rs := []) func62 rfl rfl rfl (Nat.le_of_ble_eq_true rfl) ?_
 refine wset fun F0 hF0 => ?_
 refine wsr (aS (v := (.bool true)) rfl (RL.nil (wsr (aS (v := (.bool true)) rfl (RL.nil ?_)))))
 refine wblock ?_
 refine wset fun F1 hF2 => ?_
 refine wloop (σ := Nat) (fun (z : Nat) fl wl => Off [1, 2, 3, 10, 11, 12, 13, 14, 15, 16, 17, 18, 19, 20, 21, 22, 23, 24, 25, 26, 27, 28, 29, 30, 31, 32, 33, 34, 35, 36, 37, 38, 39, 40, 41, 42, 43, 44, 45, 46, 47, 48, 49, 50, 51, 52, 53, 54, 55, 56, 57, 58, 59, 60, 61, 62, 63, 64, 65, 66, 67, 68, 69, 70, 71, 72, 73, 74, 75, 76, 77, 78, 79, 80, 81, 82, 83, 84, 85, 86, 87, 88, 89, 90, 91, 92, 93, 94, 95, 96, 97, 98, 99, 100, 101, 102, 103, 104, 105, 106, 107, 108, 109, 110, 111, 112, 113, 114, 115, 116, 117, 118, 119, 120, 121, 122, 123, 124, 125, 126, 127, 128, 129, 130, 131, 132, 133, 134, 135, 136, 137, 138, 139, 140, 141, 142, 143, 144, 145, 146, 147] F1 fl ∧ fl 1 = (.int .i64 0) ∧ fl 2 = (.int .i64 (n : Int)) ∧ fl 10 = (.bool true) ∧ fl 11 = (.bool true) ∧ (Ae post wl b 58 xs n) ∧ (Exc b w wl)) (fun (z : Nat) => z) (0) ?_ ?_
 ·exact ⟨Off.refl _ _, (hF2 1).trans (((hF0 1)).trans rfl), (hF2 2).trans (((hF0 2)).trans rfl), (hF2 10).trans (rfl), (hF2 11).trans (rfl), ha, hE⟩
 ·clear ha hE
  rintro z f3 w4 ⟨hoff5, hs6, hs7, hs8, hs9, ha, hE⟩
  refine wblock ?_
  refine wsr (mV hs7 (mV hs6 (rV (r_sub (k := .i64) (a := (n : Int)) (b := 0) (c := (n : Int)) rfl rfl ((wi64 (by omega)).trans (by omega))) (aS (v := (.int .i64 (n : Int))) rfl (RL.nil (wseq (wsr (mV (v := (.int .i64 (n : Int))) rfl (rV (r_leq (k := .i64) (a := (n : Int)) (b := 12) rfl rfl) (RL.nil ?_))))))))))
  refine wcond (b := decide ((n : Int) ≤ 12)) rfl (fun hb10 => ?_) (fun hb10 => ?_)
  ·have hb10p := of_decide_eq_true hb10
   refine wsr (mV (v := (.slice (some ⟨b, 0, none⟩) (n) (cap))) ((hoff5 0 rfl).trans ((hF2 0).trans (hF0 0))) (mV hs6 (mV hs7 (mV (v := (.func (.func kc) #[] cl.toArray)) ((hoff5 4 rfl).trans ((hF2 4).trans (hF0 4))) ?_))))
   refine RL.call rfl rfl (by decide) (r_call (vl := [(.slice (some ⟨b, 0, none⟩) (n) (cap)), (.int .i64 0), (.int .i64 (n : Int)), (.func (.func kc) #[] cl.toArray)]) ent90 rfl) (insertion_ent (LA := []) (LS := xs) (LB := []) (a := 0) (c := n) hent hcmp (hw0.trans hE) ha hsz (by simp) rfl (by have := ha.len; omega) hok) ?_
   rintro _ w11 ⟨rfl, ⟨M0, ha12, hs0, ht0⟩, hx13⟩
   replace hE := hE.trans hx13
   replace ha := ha12
   refine RL.nil ?_
   refine wret ?_
   refine ⟨[], trivial, ?_⟩
   exact ⟨rfl, ⟨M0, by simpa using ha, hs0, ht0⟩, hE⟩
  ·have hb10p := of_decide_eq_false hb10
   exact absurd hb10p (by omega)
set_option maxHeartbeats 1000000 in
theorem sort_ent {post : List Value} {b n cap : Nat} {xs : List EC} {w : World} {kc : Nat} {cl : List Value} {key : EC → Int} {ok : EC → Prop} {w0 : World} (hent : Ent Tryz.prog kc) (hcmp : CmpOk Tryz.prog kc cl encE key ok b w0) (hw0 : Exc b w0 w) (ha : Ae post w b 58 xs n) (hsz : n ≤ 4611686018427387903) (hok : ∀ x ∈ xs, ok x) (h12 : n ≤ 12) :
    Calls Tryz.prog 37 #[(.slice (some ⟨b, 0, none⟩) (n) (cap)), (.func (.func kc) #[] cl.toArray)] w fun e w' => ∃ v, e = .returned v ∧ v = .tuple #[] ∧ (∃ l, Ae post w' b 58 l n ∧ Srt key l ∧ StE key xs l) ∧ Exc b w w' := by
 have hE : Exc b w w := Exc.of_ext (Ext.refl _)
 refine calls_of (n := 14) (rs := []) func37 rfl rfl rfl (Nat.le_of_ble_eq_true rfl) ?_
 refine wset fun F0 hF0 => ?_
 refine wsr (mV (v := (.slice (some ⟨b, 0, none⟩) (n) (cap))) (hF0 0) (rV (r_len underlying22 rfl) (aS (v := (.int .i64 (n : Int))) rfl (RL.nil (wregion (mV (v := (.slice (some ⟨b, 0, none⟩) (n) (cap))) (hF0 0) (mV (v := (.int .i64 (n : Int))) rfl (mV (v := (.int .i64 (n : Int))) rfl (rV (r_conv (k := .u64) (a := (n : Int)) (c := (n : Int)) underlying3 underlying86 rfl (wu64 (by omega))) ?_)))))))))
 refine cL ent63 (len_spec (x := (n : Int)) _ (by omega) (by omega)) rfl ?_
 rintro _ _ ⟨⟨lm, rfl⟩, rfl⟩
 refine mV (v := (.func (.func kc) #[] cl.toArray)) (hF0 1) ?_
 refine RL.call rfl rfl (by decide) (r_call (vl := [(.slice (some ⟨b, 0, none⟩) (n) (cap)), (.int .i64 0), (.int .i64 (n : Int)), (.int .i64 (lm : Int)), (.func (.func kc) #[] cl.toArray)]) ent62 rfl) (pdq_ent hent hcmp hw0 ha hsz hok h12) ?_
 rintro _ w2 ⟨rfl, hl, hx⟩
 refine RL.nil ?_
 refine ⟨[], trivial, ?_⟩
 exact ⟨rfl, hl, hx⟩
end Go.Proofs.YtffgajgibddfmaaGreat
namespace Go.Proofs.YtffgajgibddfmaaGreat
open Go.Vg Go.RowKit _root_.Go.Proofs.Tryz
set_option linter.unusedVariables false
open Go.Vm
def pmL (p : List Int) (es : List Ent') : List Ent' := es.map fun e => (p.getD e.1.toNat default, e.2)
theorem get_mem {es : List En} (ha : Asc es) {e : En} (he : e ∈ es) : get es e.1 = e.2 := by
  induction es with
  | nil => cases he
  | cons x es ih =>
    rcases List.mem_cons.1 he with rfl | h
    · exact get_head ha
    · rw [get_cons_ne (by have := ha.head e h; omega)]; exact ih ha.tail h
theorem pm_at {p : List Int} {rs cs : List Ent'} {k : Nat} (hk : k < rs.length) (hcs : cs = pmL p (rs.take k) ++ rs.drop k) : cs.getD k default = rs.getD k default := by
  have hl : (pmL p (rs.take k)).length = k := by unfold pmL; rw [List.length_map, List.length_take]; omega
  rw [hcs, List.getD_eq_getElem?_getD, List.getElem?_append_right (by omega), hl, Nat.sub_self, List.getElem?_drop, Nat.add_zero, ← List.getD_eq_getElem?_getD]
theorem pm_step {p : List Int} {rs cs : List Ent'} {k : Nat} (hk : k < rs.length) (hcs : cs = pmL p (rs.take k) ++ rs.drop k) : cs.set k (p.getD (rs.getD k default).1.toNat default, (rs.getD k default).2) = pmL p (rs.take (k + 1)) ++ rs.drop (k + 1) := by
  have hl : (pmL p (rs.take k)).length = k := by unfold pmL; rw [List.length_map, List.length_take]; omega
  rw [hcs, take_snoc rs k hk, drop_cons rs k hk, List.set_append_right _ _ (by omega), hl, Nat.sub_self]
  unfold pmL
  simp
theorem wk_asc {S : List En} (hw : Wk S) (hn : (S.map Prod.fst).Nodup) : Asc S := by
  have h2 : S.Pairwise fun a b => a.1 ≠ b.1 := List.pairwise_map.1 hn
  exact (hw.and h2).imp fun ⟨h1, h2⟩ => by omega
theorem pm_fin {p : List Int} {rs S : List Ent'} (hp : IsP p) (ha : Asc rs) (hz : NonZ rs) (hin : ∀ e ∈ rs, 0 ≤ e.1 ∧ e.1 < (p.length : Int)) (hpm : (pmL p rs).Perm S) (hw : Wk S) : Asc S ∧ NonZ S := by
  constructor
  · refine wk_asc hw ?_
    refine (hpm.map Prod.fst).nodup_iff.1 ?_
    unfold pmL
    rw [List.map_map]
    refine List.pairwise_map.2 ?_
    refine (List.Pairwise.and_mem.1 ha).imp fun {a b} ⟨h1, h2, h3⟩ he => ?_
    have hp2 := List.pairwise_iff_getElem.1 hp.2
    have a1 := hin a h1
    have b1 := hin b h2
    have := hp2 a.1.toNat b.1.toNat (by omega) (by omega) (by omega)
    apply this
    have he' : p.getD a.1.toNat default = p.getD b.1.toNat default := he
    rw [List.getD_eq_getElem?_getD, List.getD_eq_getElem?_getD, List.getElem?_eq_getElem (by omega), List.getElem?_eq_getElem (by omega)] at he'
    exact he'
  · intro e he
    have := hpm.mem_iff.2 he
    unfold pmL at this
    obtain ⟨x, hx, rfl⟩ := List.mem_map.1 this
    exact hz x hx
set_option maxHeartbeats 4000000 in
theorem v_permute {w : World} {L : Nat} {Dx : Nat → TypeId → Prop} {vx : Value} {x : List Ent'} (hx0 : Es L Dx w vx x) {M : Nat} (hfx : (Asc x ∧ L ≤ M) ∨ (x.length + 1) * (L + 3) ≤ M) (hlx : x.length ≤ 524288) (hM : M ≤ 8589934000) {Dp : Nat → TypeId → Prop} {vp : Value} {p : List Int} (hp0 : Sg (gI .i64) Dp w vp p) (lnp : p.length ≤ 1048576) (h12 : ∀ r : List Ent', Asc r → NonZ r → (∀ i, get r i = get x i) → r.length ≤ 12) :
    Calls Tryz.prog 13 #[vx, vp] w fun e w' => ∃ v, e = .returned v ∧ (∃ vr ok, v = .tuple #[vr, .bool ok] ∧ ((ok = false ∧ vr = .slice none 0 0 ∧ ¬ (IsP p ∧ ∀ i, get x i ≠ 0 → 0 ≤ i ∧ i < (p.length : Int))) ∨ (ok = true ∧ (IsP p ∧ ∀ i, get x i ≠ 0 → 0 ≤ i ∧ i < (p.length : Int)) ∧ ∃ r0 rs, Ec (M + 1) (fun b _ => w.heap.size ≤ b) w' vr rs ∧ Asc rs ∧ NonZ rs ∧ (∀ i, get rs i = get (pmL p r0) i) ∧ Asc r0 ∧ NonZ r0 ∧ ∀ i, get r0 i = get x i))) ∧ Ext w w' := by
 have hE : Below w.heap.size w w := Below.refl _ _
 have hx := hx0.old
 clear hx0
 have hp := hp0.old
 clear hp0
 refine calls_of (n := 44) (rs := [.tmp 4, .tmp 5]) func13 rfl rfl rfl (Nat.le_of_ble_eq_true rfl) ?_
 refine wset fun F0 hF0 => ?_
 refine wsr (aS (v := (.slice none (0) (0))) rfl (aS (v := (.bool false)) rfl (RL.nil (wseq (wsr (mV (v := vp) (hF0 1) ?_))))))
 refine cL ent36 (v_isp hp (by omega)) rfl ?_
 rintro _ w1 ⟨⟨r, rfl, hisp⟩, he2⟩
 replace hE := hE.nx he2
 refine rV (r_not rfl) (RL.nil ?_)
 refine wcond (b := !r) rfl (fun hb3 => ?_) (fun hb3 => ?_)
 ·have hb3p := hb3
  have hr0 : r = false := by simpa using hb3
  refine wsr (aS (v := (.slice none (0) (0))) rfl (aS (v := (.bool false)) rfl (RL.nil ?_)))
  refine wret ?_
  refine ⟨[(.slice none (0) (0)), (.bool false)], ⟨rfl, ⟨rfl, trivial⟩⟩, ?_⟩
  exact ⟨⟨_, _, rfl, .inl ⟨rfl, rfl, fun h => by first | exact absurd (hisp.2 h.1) (by rw [hr0]; decide) | exact hout h⟩⟩, hE⟩
 ·have hb3p := hb3
  have hip : IsP p := hisp.1 (by simpa using hb3)
  refine wskip ?_
  refine wsr (mV (v := vx) (hF0 0) ?_)
  replace hx := hx.tr (Sm.ext he2)
  refine cL ent30 (v_norm (x := x) (L := L) (M := M) hx hfx (by omega) (by omega)) rfl ?_
  rintro vn6 w4 ⟨⟨rs7, ho8, ha9, hz10, hg11, hl12, hw13⟩, he5⟩
  replace ho8 := Oe.fr (D' := (fun b T => w.heap.size ≤ b ∧ T = 96)) (lo' := w.heap.size) ho8 hE.size (fun _ _ h => ⟨Nat.le_trans hE.size h.1, h.2⟩)
  replace hE := hE.nx he5
  refine aS (v := vn6) rfl (RL.nil (wseq (wseq ?_)))
  obtain ⟨bC, capC, hvC, ge_bC, hc1, hc2, hap⟩ := ho8.ap2 hw13
  subst hvC
  refine wregion (mV (v := (.slice (some ⟨bC, 0, none⟩) (rs7.length) (capC))) rfl (rV (r_len underlying22 rfl) (mV (v := (.int .i64 0)) rfl (RL.nil ?_))))
  refine wblock ?_
  refine wset fun F14 hF15 => ?_
  refine wloop (σ := Nat × List Ent') (fun (s : Nat × List Ent') fl wl => match s with | (k, cs) => Off [4, 5, 7, 8, 16, 17, 18, 19, 20, 21, 22, 23, 24, 25, 26, 27, 28, 29, 30, 31, 32, 33, 34, 35, 36, 37, 38, 39, 40] F14 fl ∧ fl 16 = (.int .i64 (k : Int)) ∧ (k ≤ rs7.length) ∧ (cs = pmL p (rs7.take k) ++ rs7.drop k) ∧ (∀ e ∈ rs7.take k, 0 ≤ e.1 ∧ e.1 < (p.length : Int)) ∧ (Ap (M + 1) (fun b T => w.heap.size ≤ b ∧ T = 96) wl bC 58 cs rs7.length) ∧ (Es L (fun b T => Dx b T ∧ b < w.heap.size) wl vx x) ∧ (Below w.heap.size w wl) ∧ (Sg (gI .i64) (fun b T => Dp b T ∧ b < w.heap.size) wl vp p)) (fun (s : Nat × List Ent') => match s with | (k, cs) => rs7.length - k) (0, rs7) ?_ ?_
  ·replace hx := hx.tr (Sm.ext he5)
   replace hp := hp.tr (Sm.ext (Ext.trans he2 he5))
   exact ⟨Off.refl _ _, (hF15 16).trans (rfl), Nat.zero_le _, (by simp [pmL]), (fun e he => by simp at he), hap, hx, hE, hp⟩
  ·clear hx hE hp hap
   rintro ⟨k, cs⟩ f16 w17 ⟨hoff18, hs19, hk, hcs, hin, hap, hx, hE, hp⟩
   refine wsr (rV (r_lss (k := .i64) (a := (k : Int)) (b := ((rs7.length : Nat) : Int)) hs19 ((hoff18 15 rfl).trans (hF15 15))) (RL.nil (wseq ?_)))
   refine wcond (b := decide ((k : Int) < ((rs7.length : Nat) : Int))) rfl (fun hb20 => ?_) (fun hb20 => ?_)
   ·have hb20p := of_decide_eq_true hb20
    refine wskip ?_
    refine wseq ?_
    refine wblock ?_
    refine wseq ?_
    have hkl : k < rs7.length := by omega
    have hck := pm_at hkl hcs
    refine wregion (mV hs19 (rV (r_indexAddr (i := (k : Int)) underlying22 ty58 ((hoff18 14 rfl).trans (hF15 14)) hs19 (by omega) (by omega)) ?_))
    obtain ⟨A22, B23, hc21, hx24, hd25, ln26, ln27⟩ := hap.ix (i := (k : Int)) (k) (by omega) (by omega)
    refine rV (r_loada (cs := [(.int .i64 ((cs.getD (k) default).1)), (.bool (decide ((cs.getD (k) default).2.num < 0))), (sv A22), (sv B23)]) underlying58 ag58 ty58 rfl hc21) ?_
    refine rU (h_alloc (cs := [(.int .i64 0), (.bool false), (.slice none 0 0), (.slice none 0 0)]) ty58 rfl) ?_
    rintro _ w28 ⟨b29, rfl, hs32, hb31, he30⟩
    have lt_bC_b29 := Nat.lt_of_lt_of_eq hap.lt hs32.symm
    have ge_b29 := hE.ge hs32
    replace hE := hE.nx he30
    refine aS (v := (.int .i64 (k : Int))) rfl ?_
    refine RL.runs rfl rfl (h_store (vv := (.agg #[(.int .i64 ((cs.getD (k) default).1)), (.bool (decide ((cs.getD (k) default).2.num < 0))), (sv A22), (sv B23)])) (cs := [(.int .i64 ((cs.getD (k) default).1)), (.bool (decide ((cs.getD (k) default).2.num < 0))), (sv A22), (sv B23)]) (o := 0) ty58 rfl rfl rfl rfl (one_cons rfl (one_cons rfl (one_cons hx24.one (one_cons hd25.one one_nil)))) hb31 (Nat.le_of_ble_eq_true rfl)) ?_
    rintro w33 ⟨hn34, hx35, hz36⟩
    replace hE := hE.nb hx35 ge_b29
    have nb_hx35 := (Nb.of hb31 (nu_cons rfl (nu_cons rfl (nu_cons rfl (nu_cons rfl nu_nil)))))
    replace hb31 : Bk w33 b29 58 [(.int .i64 ((cs.getD (k) default).1)), (.bool (decide ((cs.getD (k) default).2.num < 0))), (sv A22), (sv B23)] := hn34
    refine RL.nil (wseq (wsr (rV (r_fieldAddr underlying58 rfl ty3 rfl) ?_)))
    have hc37 := hb31.cell (j := 0) (u := (.int .i64 ((cs.getD (k) default).1))) rfl
    refine rV (r_load underlying3 ag3 rfl hc37) (rV (r_lss (k := .i64) (a := (cs.getD (k) default).1) (b := 0) rfl rfl) (mV (v := (.bool (decide (((cs.getD (k) default).1) < 0)))) rfl ?_))
    rcases Bool.eq_false_or_eq_true (decide (((cs.getD (k) default).1) < 0)) with hb38 | hb38
    ·have hb38p := of_decide_eq_true hb38
     have hbad := hb38p
     refine RL.gno rfl rfl (bool_eq hb38) rfl (by decide) ?_
     refine RL.gno rfl rfl (bool_eq hb38) rfl (by decide) ?_
     refine RL.gno rfl rfl (bool_eq hb38) rfl (by decide) ?_
     refine RL.gno rfl rfl (bool_eq hb38) rfl (by decide) ?_
     refine RL.gno rfl rfl (bool_eq hb38) rfl (by decide) ?_
     refine rV (r_pick_t (v := (.bool true)) (bool_eq hb38) rfl) (RL.nil ?_)
     refine wcond_t rfl ?_
     refine wseq ?_
     have hout : ¬ (IsP p ∧ ∀ i, get x i ≠ 0 → 0 ≤ i ∧ i < (p.length : Int)) := fun h => by
       have h1 := hg11 (rs7.getD k default).1
       rw [get_mem ha9 (getD_mem _ _ hkl)] at h1
       have h2 := h.2 (rs7.getD k default).1 (by rw [← h1]; exact hz10 _ (getD_mem _ _ hkl))
       rw [← hck] at h2
       first | omega | (have h3 := h2.1; have h4 := h2.2; omega)
     refine wregion (aS (v := (.slice none (0) (0))) rfl (aS (v := (.bool false)) rfl (RL.nil ?_)))
     refine wret ?_
     refine ⟨[(.slice none (0) (0)), (.bool false)], ⟨rfl, ⟨rfl, trivial⟩⟩, ?_⟩
     exact ⟨⟨_, _, rfl, .inl ⟨rfl, rfl, fun h => by first | exact absurd (hisp.2 h.1) (by rw [hr0]; decide) | exact hout h⟩⟩, hE⟩
    ·have hb38p := of_decide_eq_false hb38
     have hlow := hb38p
     refine RL.gval rfl rfl (bool_eq hb38) rfl (by decide) (r_fieldAddr underlying58 rfl ty3 rfl) ?_
     have hc39 := hb31.cell (j := 0) (u := (.int .i64 ((cs.getD (k) default).1))) rfl
     refine RL.gval rfl rfl (bool_eq hb38) rfl (by decide) (r_load underlying3 ag3 rfl hc39) ?_
     refine RL.gval rfl rfl (bool_eq hb38) rfl (by decide) (r_move_as (v := vp) ((hoff18 1 rfl).trans ((hF15 1).trans (hF0 1)))) ?_
     obtain ⟨A40, c41, hv42, hc43, hc44⟩ := hp.len
     refine RL.gval rfl rfl (bool_eq hb38) rfl (by decide) (r_len underlying23 hv42) ?_
     refine RL.gval rfl rfl (bool_eq hb38) rfl (by decide) (r_geq (k := .i64) (a := (cs.getD (k) default).1) (b := ((p.length : Nat) : Int)) rfl rfl) ?_
     refine rV (r_pick_f (v := (.bool (decide (((p.length : Nat) : Int) ≤ ((cs.getD (k) default).1))))) (bool_eq hb38) rfl) (RL.nil ?_)
     refine wcond (b := decide (((p.length : Nat) : Int) ≤ ((cs.getD (k) default).1))) rfl (fun hb45 => ?_) (fun hb45 => ?_)
     ·have hb45p := of_decide_eq_true hb45
      refine wseq ?_
      have hout : ¬ (IsP p ∧ ∀ i, get x i ≠ 0 → 0 ≤ i ∧ i < (p.length : Int)) := fun h => by
        have h1 := hg11 (rs7.getD k default).1
        rw [get_mem ha9 (getD_mem _ _ hkl)] at h1
        have h2 := h.2 (rs7.getD k default).1 (by rw [← h1]; exact hz10 _ (getD_mem _ _ hkl))
        rw [← hck] at h2
        first | omega | (have h3 := h2.1; have h4 := h2.2; omega)
      refine wregion (aS (v := (.slice none (0) (0))) rfl (aS (v := (.bool false)) rfl (RL.nil ?_)))
      refine wret ?_
      refine ⟨[(.slice none (0) (0)), (.bool false)], ⟨rfl, ⟨rfl, trivial⟩⟩, ?_⟩
      exact ⟨⟨_, _, rfl, .inl ⟨rfl, rfl, fun h => by first | exact absurd (hisp.2 h.1) (by rw [hr0]; decide) | exact hout h⟩⟩, hE⟩
     ·have hb45p := of_decide_eq_false hb45
      have hhigh := hb45p
      refine wskip ?_
      refine wregion (mV (v := (.slice (some ⟨bC, 0, none⟩) (rs7.length) (capC))) ((hoff18 6 rfl).trans (hF15 6)) (mV (v := (.int .i64 (k : Int))) rfl (mV (v := vp) ((hoff18 1 rfl).trans ((hF15 1).trans (hF0 1))) (rV (r_fieldAddr underlying58 rfl ty3 rfl) ?_))))
      have hc46 := hb31.cell (j := 0) (u := (.int .i64 ((cs.getD (k) default).1))) rfl
      refine rV (r_load underlying3 ag3 rfl hc46) ?_
      replace hp := (hp.tr (Sm.ext he30)).tr (Sm.exc hx35 (fun _ _ _ _ hd => absurd hd.2 (Nat.not_lt_of_le ge_b29)))
      obtain ⟨b47, o48, c49, hv50, hc51⟩ := hp.ix (i := (cs.getD (k) default).1) ((cs.getD (k) default).1.toNat) (by omega) (by omega)
      refine rV (r_indexAddr (i := (cs.getD (k) default).1) underlying23 ty3 hv50 rfl (by omega) (by omega)) (rV (r_load (v := (.int .i64 (p.getD ((cs.getD (k) default).1.toNat) default))) underlying3 ag3 rfl hc51) (rV (r_indexAddr (i := (k : Int)) underlying22 ty58 rfl rfl (by omega) (by omega)) (rV (r_fieldAddr underlying58 rfl ty3 rfl) ?_)))
      replace hap := (hap.ext he30).apn hx35 (Nat.ne_of_lt lt_bC_b29) nb_hx35
      refine RL.runs rfl rfl (h_setPi (i := (k : Int)) ty3 rfl rfl hap (fun h => absurd h.2 (by decide)) (k) (by omega) (by omega)) ?_
      rintro w52 ⟨ha53, hx54⟩
      replace hE := hE.nb hx54 ge_bC
      replace hap := ha53
      refine RL.nil (wregion (rV (r_add (k := .i64) (a := (k : Int)) (b := 1) (c := (k : Int) + 1) hs19 rfl (wi64 (by omega))) (mV (v := (.int .i64 ((k : Int) + 1))) rfl (RL.nil ?_))))
      replace hx := ((hx.tr (Sm.ext he30)).tr (Sm.exc hx35 (fun _ _ _ _ hd => absurd hd.2 (Nat.not_lt_of_le ge_b29)))).tr (Sm.exc hx54 (fun _ _ _ _ hd => absurd hd.2 (Nat.not_lt_of_le ge_bC)))
      replace hp := hp.tr (Sm.exc hx54 (fun _ _ _ _ hd => absurd hd.2 (Nat.not_lt_of_le ge_bC)))
      refine ⟨(k + 1, (cs.set (k) (p.getD ((cs.getD (k) default).1.toNat) default, (cs.getD (k) default).2))), ⟨?_, ?_, ?_, ?_, ?_, ?_, ?_, ?_, ?_⟩, ?_⟩
      · exact (by repeat (first | exact hoff18 | refine Off.st ?_ (by decide) _))
      · first | rfl | exact int_eq (by omega) | exact bool_eq (by simp)
      · omega
      · rw [hck]; exact pm_step hkl hcs
      · rw [take_snoc rs7 k hkl]; intro e he; rcases List.mem_append.1 he with h | h; exact hin e h; rw [List.mem_singleton.1 h]; rw [hck] at hlow hhigh; exact ⟨by omega, by omega⟩
      · exact hap
      · exact hx
      · exact hE
      · exact hp
      · (try dsimp only)
        omega
   ·have hb20p := of_decide_eq_false hb20
    refine wexit ?_
    refine wseq ?_
    have hcov : ∀ i, get rs7 i ≠ 0 → 0 ≤ i ∧ i < (p.length : Int) := fun i hi => by
      rcases Classical.em (∃ e ∈ rs7, e.1 = i) with ⟨e, he, rfl⟩ | hno
      · exact hin e (by rw [List.take_of_length_le (by omega)]; exact he)
      · exact absurd (get_none fun e he h => hno ⟨e, he, h⟩) hi
    have hr12 := h12 rs7 ha9 hz10 hg11
    refine wregion (mV (v := (.slice (some ⟨bC, 0, none⟩) (rs7.length) (capC))) ((hoff18 6 rfl).trans (hF15 6)) ?_)
    obtain ⟨xs0, post0, hae, hfe⟩ := id hap
    refine RL.call rfl rfl (by decide) (r_call (vl := [(.slice (some ⟨bC, 0, none⟩) (rs7.length) (capC)), (.func (.func 38) #[] #[])]) ent37 rfl) (sort_ent (key := fun x : EC => x.1) (ok := fun _ => True) (cl := []) ent38 byidx_ok (Exc.of_ext (Ext.refl _)) hae (by omega) (fun _ _ => trivial) (by omega)) ?_
    rintro _ w55 ⟨rfl, ⟨l0, hl0, hsr, hst0⟩, hx56⟩
    replace hE := hE.nb hx56 ge_bC
    obtain ⟨S0, hS0, hprm, hwk⟩ := sort_liftP hfe hae (fun h => absurd h.2 (by decide)) hx56 hl0 hsr hst0
    replace hap := hS0
    refine RL.nil (wsr (mV (v := (.slice (some ⟨bC, 0, none⟩) (rs7.length) (capC))) ((hoff18 6 rfl).trans (hF15 6)) (aS (v := (.slice (some ⟨bC, 0, none⟩) (rs7.length) (capC))) rfl (aS (v := (.bool true)) rfl (RL.nil ?_)))))
    refine wret ?_
    refine ⟨[(.slice (some ⟨bC, 0, none⟩) (rs7.length) (capC)), (.bool true)], ⟨rfl, ⟨rfl, trivial⟩⟩, ?_⟩
    have hne := pm_fin hip ha9 hz10 (fun e he => hin e (by rw [List.take_of_length_le (by omega)]; exact he)) (by rw [hcs, List.take_of_length_le (by omega), List.drop_of_length_le (by omega), List.append_nil] at hprm; exact hprm) hwk
    have hgS : ∀ i, get S0 i = get (pmL p rs7) i := fun i => by rw [← get_perm hprm i, hcs, List.take_of_length_le (by omega), List.drop_of_length_le (by omega), List.append_nil]
    exact ⟨⟨_, _, rfl, .inr ⟨rfl, ⟨hip, fun i hi => (by rw [← hg11 i] at hi; exact hcov i hi)⟩, rs7, S0, hap.ec ge_bC (fun _ _ h => h.1) (by omega) (by omega), hne.1, hne.2, hgS, ha9, hz10, hg11⟩⟩, hE⟩
end Go.Proofs.YtffgajgibddfmaaGreat
namespace Go.Proofs.YtffgajgibddfmaaGreat
open Go.Vg Go.RowKit _root_.Go.Proofs.Tryz
set_option linter.unusedVariables false
open Go.Vm
theorem awk_ok : IsP [2, 0, 1] ∧ ∀ i, get [(0, ((5 : Int) : Rat))] i ≠ 0 → 0 ≤ i ∧ i < (([2, 0, 1] : List Int).length : Int) := by
  refine ⟨⟨by decide, by decide⟩, fun i hi => ?_⟩
  rcases Classical.em ((0 : Int) = i) with h | h
  · subst h; decide
  · exact absurd (get_none fun e he => by rw [List.mem_singleton.1 he]; exact h) hi
theorem awk12 : ∀ r : List Ent', Asc r → NonZ r → (∀ i, get r i = get [(0, ((5 : Int) : Rat))] i) → r.length ≤ 12 := fun r ha hz hg => by
  have h5 : ((5 : Int) : Rat) ≠ 0 := by decide
  rw [canon_ext r [(0, ((5 : Int) : Rat))] ha (by simp [Asc]) hz (fun e he => by rw [List.mem_singleton.1 he]; exact h5) hg]
  decide
theorem awk_perm {r0 rs : List Ent'} (hp : IsP [2, 0, 1] ∧ ∀ i, get [(0, ((5 : Int) : Rat))] i ≠ 0 → 0 ≤ i ∧ i < (([2, 0, 1] : List Int).length : Int)) (ha : Asc rs) (hz : NonZ rs) (hg : ∀ i, get rs i = get (pmL [2, 0, 1] r0) i) (ra : Asc r0) (rz : NonZ r0) (rg : ∀ i, get r0 i = get [(0, ((5 : Int) : Rat))] i) : rs = [(2, ((5 : Int) : Rat))] := by
  have h5 : ((5 : Int) : Rat) ≠ 0 := by decide
  have e := canon_ext r0 [(0, ((5 : Int) : Rat))] ra (by simp [Asc]) rz (fun e he => by rw [List.mem_singleton.1 he]; exact h5) rg
  subst e
  exact canon_ext _ _ ha (by simp [Asc]) hz (fun e he => by rw [List.mem_singleton.1 he]; exact h5) hg
theorem awk_norm {rs : List Ent'} (ha : Asc rs) (hz : NonZ rs) (hg : ∀ i, get rs i = get [(3, ((1 : Int) : Rat)), (1, ((2 : Int) : Rat)), (3, ((-1 : Int) : Rat))] i) : rs = [(1, ((2 : Int) : Rat))] := by
  have h2 : ((2 : Int) : Rat) ≠ 0 := by decide
  refine canon_ext _ _ ha (by simp [Asc]) hz (fun e he => by rw [List.mem_singleton.1 he]; exact h2) fun i => (hg i).trans ?_
  show (if (3 : Int) = i then ((1 : Int) : Rat) else 0) + ((if (1 : Int) = i then ((2 : Int) : Rat) else 0) + ((if (3 : Int) = i then ((-1 : Int) : Rat) else 0) + 0)) = (if (1 : Int) = i then ((2 : Int) : Rat) else 0) + 0
  by_cases h3 : (3 : Int) = i
  · rw [if_pos h3, if_pos h3, if_neg (by omega)]; decide +kernel
  · rw [if_neg h3, if_neg h3]; rw [Rat.add_zero, Rat.zero_add]
theorem awk_dot : dtF [(0, ((2 : Int) : Rat)), (5, ((3 : Int) : Rat))] [(5, ((4 : Int) : Rat)), (7, ((1 : Int) : Rat))] = ((12 : Int) : Rat) := by decide +kernel
set_option maxHeartbeats 1000000 in
theorem l_entry {w : World} {i k : Int} (hk : -9223372036854775808 ≤ k ∧ k ≤ 9223372036854775807) :
    Calls Tryz.prog 43 #[(.int .i64 (i)), (.int .i64 (k))] w fun e w' => ∃ v, e = .returned v ∧ (∃ vn vd, v = .agg #[.int .i64 i, .bool (decide (((k : Int) : Rat).num < 0)), vn, vd] ∧ Rk 3 (fun b T => w.heap.size ≤ b ∧ T = 96) w' (decide (((k : Int) : Rat).num < 0), vn, vd) ((k : Int) : Rat)) ∧ Ext w w' := by
 have hE : Below w.heap.size w w := Below.refl _ _
 refine calls_of (n := 9) (rs := [.cell 4 58]) func43 rfl rfl rfl (Nat.le_of_ble_eq_true rfl) ?_
 refine wset fun F0 hF0 => ?_
 refine wsr ?_
 refine rU (h_alloc (cs := [(.int .i64 0), (.bool false), (.slice none 0 0), (.slice none 0 0)]) ty58 rfl) ?_
 rintro _ w1 ⟨b2, rfl, hs5, hb4, he3⟩
 have ge_b2 := hE.ge hs5
 replace hE := hE.nx he3
 refine RL.nil (wsr (mV (v := (.int .i64 (i))) (hF0 0) (mV (v := (.int .i64 (k))) (hF0 1) ?_)))
 refine cL ent23 (r03_from (by omega)) rfl ?_
 rintro _ w6 ⟨⟨vn8, vd10, rfl, hn9, hd11, hl12, hl13⟩, he7⟩
 have hlv14 := den_one ((k : Int) : Rat)
 replace hn9 := hn9.fr hE
 replace hd11 := hd11.fr hE
 replace hE := hE.nx he7
 refine rV (r_build (vl := [(0, (.int .i64 (i))), (1, (.agg #[(.bool (decide (((k : Int) : Rat).num < 0))), vn8, vd10]))]) (cs := [(.int .i64 (i)), (.bool (decide (((k : Int) : Rat).num < 0))), vn8, vd10]) underlying58 ty58 rfl (pl58 underlying58) rfl) ?_
 replace hb4 := hb4.ext he7
 refine RL.runs rfl rfl (h_store (vv := (.agg #[(.int .i64 (i)), (.bool (decide (((k : Int) : Rat).num < 0))), vn8, vd10])) (cs := [(.int .i64 (i)), (.bool (decide (((k : Int) : Rat).num < 0))), vn8, vd10]) (o := 0) ty58 rfl rfl rfl rfl (one_cons rfl (one_cons rfl (one_cons hn9.one (one_cons hd11.one one_nil)))) hb4 (Nat.le_of_ble_eq_true rfl)) ?_
 rintro w15 ⟨hn16, hx17, hz18⟩
 replace hE := hE.nb hx17 ge_b2
 have nb_hx17 := (Nb.of hb4 (nu_cons rfl (nu_cons rfl (nu_cons rfl (nu_cons rfl nu_nil)))))
 replace hb4 : Bk w15 b2 58 [(.int .i64 (i)), (.bool (decide (((k : Int) : Rat).num < 0))), vn8, vd10] := hn16
 refine RL.nil ?_
 refine wret ?_
 refine ⟨[(.agg #[(.int .i64 (i)), (.bool (decide (((k : Int) : Rat).num < 0))), vn8, vd10])], ⟨⟨_, _, [(.int .i64 (i)), (.bool (decide (((k : Int) : Rat).num < 0))), vn8, vd10], rfl, ⟨_, underlying58⟩, hb4.cells rfl, .inl ⟨ag58, ⟨_, _, ty58⟩, rfl⟩⟩, trivial⟩, ?_⟩
 replace hn9 := hn9.apn hx17 nb_hx17
 replace hd11 := hd11.apn hx17 nb_hx17
 exact ⟨⟨_, _, rfl, rfl, hn9, hd11, by omega, by omega⟩, hE⟩
set_option maxHeartbeats 4000000 in
theorem l_awake {w : World} :
    Calls Tryz.prog 16 #[] w fun e w' => ∃ v, e = .returned v ∧ v = .bool true ∧ Ext w w' := by
 have hE : Below w.heap.size w w := Below.refl _ _
 refine calls_of (n := 38) (rs := [.tmp 0]) func16 rfl rfl rfl (Nat.le_of_ble_eq_true rfl) ?_
 refine wset fun F0 hF0 => ?_
 refine wsr (aS (v := (.bool false)) rfl (RL.nil (wsr ?_)))
 refine cL (vl := [(.int .i64 0), (.int .i64 5)]) ent43 (l_entry (i := 0) (k := 5) (by decide)) rfl ?_
 rintro _ w1 ⟨⟨vn3, vd4, rfl, hk5⟩, he2⟩
 obtain ⟨-, hn6, hd7, ln8, ln9⟩ := hk5
 replace hn6 := hn6.fr hE
 replace hd7 := hd7.fr hE
 replace hE := hE.nx he2
 refine rU (h_lit (vl := [(0, (.agg #[(.int .i64 0), (.bool (decide (((5 : Int) : Rat).num < 0))), vn3, vd4]))]) (cs := [(.int .i64 0), (.bool (decide (((5 : Int) : Rat).num < 0))), vn3, vd4]) underlying22 ty58 rfl (by decide) (by first | (simp [Instr.fill, Value.cells]; done) | rfl | kernel_rfl)) ?_
 rintro _ w10 ⟨b11, rfl, hs14, hb13, he12⟩
 have ge_b11 := hE.ge hs14
 replace hE := hE.nx he12
 refine rU (h_lit (vl := [(0, (.int .i64 2)), (1, (.int .i64 0)), (2, (.int .i64 1))]) (cs := [(.int .i64 2), (.int .i64 0), (.int .i64 1)]) underlying23 ty3 rfl (by decide) (by first | (simp [Instr.fill, Value.cells]; done) | rfl | kernel_rfl)) ?_
 rintro _ w15 ⟨b16, rfl, hs19, hb18, he17⟩
 have lt_b11_b16 := Nat.lt_of_lt_of_eq hb13.lt hs19.symm
 have ge_b16 := hE.ge hs19
 replace hE := hE.nx he17
 replace hb13 := hb13.ext he17
 replace hn6 := hn6.tr (Sm.ext (Ext.trans he12 he17))
 replace hd7 := hd7.tr (Sm.ext (Ext.trans he12 he17))
 have hlit21 := Ec.lit (L := 3) (D := (fun b _ => w.heap.size ≤ b)) (T := 58) [((0, decide (((5 : Int) : Rat).num < 0), vn3, vd4), ((5 : Int) : Rat))] hb13 ge_b11 (Nat.le_of_ble_eq_true rfl) (List.forall_mem_cons.2 ⟨⟨rfl, hn6.mono (fun _ _ h => h.1), hd7.mono (fun _ _ h => h.1), ln8, ln9⟩, (fun _ h => by cases h)⟩)
 refine cL (vl := [(.slice (some ⟨b11, 0, none⟩) (1) (1)), (.slice (some ⟨b16, 0, none⟩) (3) (3))]) ent13 (v_permute (x := [(0, ((5 : Int) : Rat))]) (L := 3) (M := 100) (p := [2, 0, 1]) hlit21.rd (.inr (by decide)) (by decide) (by decide) (hb18.sg (g := gI .i64) (D := (fun b _ => w.heap.size ≤ b)) (xs := [2, 0, 1]) ge_b16 rfl rfl (by decide)) (by decide) awk12) rfl ?_
 rintro vt0 w20 ⟨⟨vp0, ok0, rfl, hdis⟩, he22⟩
 obtain ⟨rfl, hpp, r00, rs0, hpe, hpa, hpz, hpg, hra, hrz, hrg⟩ := hdis.resolve_left (fun h => h.2.2 awk_ok)
 replace hpe := hpe.mono (D' := (fun b _ => w.heap.size ≤ b)) (fun _ _ h => Nat.le_trans hE.size h)
 replace hE := hE.nx he22
 have hpm1 : rs0 = [(2, ((5 : Int) : Rat))] := awk_perm hpp hpa hpz hpg hra hrz hrg
 rw [hpm1] at hpe
 refine mV (v := (.tuple #[vp0, (.bool true)])) rfl (rV (r_extract (v := vp0) rfl rfl) (rV (r_extract (v := (.bool true)) rfl rfl) (aS (v := vp0) rfl (aS (v := (.bool true)) rfl (RL.nil (wsr ?_))))))
 refine cL (vl := [(.int .i64 3), (.int .i64 1)]) ent43 (l_entry (i := 3) (k := 1) (by decide)) rfl ?_
 rintro _ w23 ⟨⟨vn25, vd26, rfl, hk27⟩, he24⟩
 obtain ⟨-, hn28, hd29, ln30, ln31⟩ := hk27
 replace hn28 := hn28.fr hE
 replace hd29 := hd29.fr hE
 replace hE := hE.nx he24
 refine cL (vl := [(.int .i64 1), (.int .i64 2)]) ent43 (l_entry (i := 1) (k := 2) (by decide)) rfl ?_
 rintro _ w32 ⟨⟨vn34, vd35, rfl, hk36⟩, he33⟩
 obtain ⟨-, hn37, hd38, ln39, ln40⟩ := hk36
 replace hn37 := hn37.fr hE
 replace hd38 := hd38.fr hE
 replace hE := hE.nx he33
 refine cL (vl := [(.int .i64 3), (.int .i64 (-1))]) ent43 (l_entry (i := 3) (k := -1) (by decide)) rfl ?_
 rintro _ w41 ⟨⟨vn43, vd44, rfl, hk45⟩, he42⟩
 obtain ⟨-, hn46, hd47, ln48, ln49⟩ := hk45
 replace hn46 := hn46.fr hE
 replace hd47 := hd47.fr hE
 replace hE := hE.nx he42
 refine rU (h_lit (vl := [(0, (.agg #[(.int .i64 3), (.bool (decide (((1 : Int) : Rat).num < 0))), vn25, vd26])), (1, (.agg #[(.int .i64 1), (.bool (decide (((2 : Int) : Rat).num < 0))), vn34, vd35])), (2, (.agg #[(.int .i64 3), (.bool (decide (((-1 : Int) : Rat).num < 0))), vn43, vd44]))]) (cs := [(.int .i64 3), (.bool (decide (((1 : Int) : Rat).num < 0))), vn25, vd26, (.int .i64 1), (.bool (decide (((2 : Int) : Rat).num < 0))), vn34, vd35, (.int .i64 3), (.bool (decide (((-1 : Int) : Rat).num < 0))), vn43, vd44]) underlying22 ty58 rfl (by decide) (by first | (simp [Instr.fill, Value.cells]; done) | rfl | kernel_rfl)) ?_
 rintro _ w50 ⟨b51, rfl, hs54, hb53, he52⟩
 have hm55 := Ext.trans he22 (Ext.trans he24 (Ext.trans he33 he42))
 replace hb18 := hb18.ext hm55
 have lt_b16_b51 := Nat.lt_of_lt_of_eq hb18.lt hs54.symm
 have ge_b51 := hE.ge hs54
 replace hE := hE.nx he52
 have hm67 := Ext.trans he33 (Ext.trans he42 he52)
 replace hn28 := hn28.tr (Sm.ext hm67)
 replace hd29 := hd29.tr (Sm.ext hm67)
 replace hn37 := hn37.tr (Sm.ext (Ext.trans he42 he52))
 replace hd38 := hd38.tr (Sm.ext (Ext.trans he42 he52))
 replace hn46 := hn46.tr (Sm.ext he52)
 replace hd47 := hd47.tr (Sm.ext he52)
 have hlit66 := Ec.lit (L := 3) (D := (fun b _ => w.heap.size ≤ b)) (T := 58) [((3, decide (((1 : Int) : Rat).num < 0), vn25, vd26), ((1 : Int) : Rat)), ((1, decide (((2 : Int) : Rat).num < 0), vn34, vd35), ((2 : Int) : Rat)), ((3, decide (((-1 : Int) : Rat).num < 0), vn43, vd44), ((-1 : Int) : Rat))] hb53 ge_b51 (Nat.le_of_ble_eq_true rfl) (List.forall_mem_cons.2 ⟨⟨rfl, hn28.mono (fun _ _ h => h.1), hd29.mono (fun _ _ h => h.1), ln30, ln31⟩, (List.forall_mem_cons.2 ⟨⟨rfl, hn37.mono (fun _ _ h => h.1), hd38.mono (fun _ _ h => h.1), ln39, ln40⟩, (List.forall_mem_cons.2 ⟨⟨rfl, hn46.mono (fun _ _ h => h.1), hd47.mono (fun _ _ h => h.1), ln48, ln49⟩, (fun _ h => by cases h)⟩)⟩)⟩)
 refine cL (vl := [(.slice (some ⟨b51, 0, none⟩) (3) (3))]) ent30 (v_norm (x := [(3, ((1 : Int) : Rat)), (1, ((2 : Int) : Rat)), (3, ((-1 : Int) : Rat))]) (L := 3) (M := 100) hlit66.rd (.inr (by decide)) (by decide) (by decide)) rfl ?_
 rintro vn58 w56 ⟨⟨rs59, ho60, ha61, hz62, hg63, hl64, hw65⟩, he57⟩
 replace ho60 := Oe.fr (D' := (fun b T => w.heap.size ≤ b ∧ T = 96)) (lo' := w.heap.size) ho60 hE.size (fun _ _ h => ⟨Nat.le_trans hE.size h.1, h.2⟩)
 replace hE := hE.nx he57
 have hnm := awk_norm ha61 hz62 hg63
 rw [hnm] at ho60
 refine cL (vl := [(.int .i64 1), (.int .i64 2)]) ent43 (l_entry (i := 1) (k := 2) (by decide)) rfl ?_
 rintro _ w68 ⟨⟨vn70, vd71, rfl, hk72⟩, he69⟩
 obtain ⟨-, hn73, hd74, ln75, ln76⟩ := hk72
 replace hn73 := hn73.fr hE
 replace hd74 := hd74.fr hE
 replace hE := hE.nx he69
 refine rU (h_lit (vl := [(0, (.agg #[(.int .i64 1), (.bool (decide (((2 : Int) : Rat).num < 0))), vn70, vd71]))]) (cs := [(.int .i64 1), (.bool (decide (((2 : Int) : Rat).num < 0))), vn70, vd71]) underlying22 ty58 rfl (by decide) (by first | (simp [Instr.fill, Value.cells]; done) | rfl | kernel_rfl)) ?_
 rintro _ w77 ⟨b78, rfl, hs81, hb80, he79⟩
 replace hb53 := hb53.ext (Ext.trans he57 he69)
 have lt_b51_b78 := Nat.lt_of_lt_of_eq hb53.lt hs81.symm
 have ge_b78 := hE.ge hs81
 replace ho60 := ho60.ext he69
 have on_vn58_b78 : vn58.ownBlock ≠ some b78 := fun h => absurd (ho60.lt _ h) (by rw [hs81]; exact Nat.lt_irrefl _)
 replace hE := hE.nx he79
 replace hn73 := hn73.tr (Sm.ext he79)
 replace hd74 := hd74.tr (Sm.ext he79)
 have hlit84 := Ec.lit (L := 3) (D := (fun b _ => w.heap.size ≤ b)) (T := 58) [((1, decide (((2 : Int) : Rat).num < 0), vn70, vd71), ((2 : Int) : Rat))] hb80 ge_b78 (Nat.le_of_ble_eq_true rfl) (List.forall_mem_cons.2 ⟨⟨rfl, hn73.mono (fun _ _ h => h.1), hd74.mono (fun _ _ h => h.1), ln75, ln76⟩, (fun _ h => by cases h)⟩)
 replace ho60 := ho60.ext he79
 refine cL ent15 (r06_ident (L := 101) (es := [(1, ((2 : Int) : Rat))]) ((ho60.ec (D' := (fun b _ => w.heap.size ≤ b)) (fun _ h => h) (fun _ _ h => h.1)).wide (by omega)) (hlit84.wide (by omega)) (by omega)) rfl ?_
 rintro _ w82 ⟨rfl, he83⟩
 replace hE := hE.nx he83
 refine mV (v := (.bool true)) rfl ?_
 refine RL.gcall rfl rfl rfl rfl (by decide) (r_call (vl := [(.int .i64 0), (.int .i64 2)]) ent43 rfl) (l_entry (i := 0) (k := 2) (by decide)) ?_
 rintro _ w85 ⟨⟨vn87, vd88, rfl, hk89⟩, he86⟩
 obtain ⟨-, hn90, hd91, ln92, ln93⟩ := hk89
 replace hn90 := hn90.fr hE
 replace hd91 := hd91.fr hE
 replace hE := hE.nx he86
 refine RL.gcall rfl rfl rfl rfl (by decide) (r_call (vl := [(.int .i64 5), (.int .i64 3)]) ent43 rfl) (l_entry (i := 5) (k := 3) (by decide)) ?_
 rintro _ w94 ⟨⟨vn96, vd97, rfl, hk98⟩, he95⟩
 obtain ⟨-, hn99, hd100, ln101, ln102⟩ := hk98
 replace hn99 := hn99.fr hE
 replace hd100 := hd100.fr hE
 replace hE := hE.nx he95
 refine RL.grun rfl rfl rfl rfl (by decide) (h_lit (vl := [(0, (.agg #[(.int .i64 0), (.bool (decide (((2 : Int) : Rat).num < 0))), vn87, vd88])), (1, (.agg #[(.int .i64 5), (.bool (decide (((3 : Int) : Rat).num < 0))), vn96, vd97]))]) (cs := [(.int .i64 0), (.bool (decide (((2 : Int) : Rat).num < 0))), vn87, vd88, (.int .i64 5), (.bool (decide (((3 : Int) : Rat).num < 0))), vn96, vd97]) underlying22 ty58 rfl (by decide) (by first | (simp [Instr.fill, Value.cells]; done) | rfl | kernel_rfl)) ?_
 rintro _ w103 ⟨b104, rfl, hs107, hb106, he105⟩
 have hm108 := Ext.trans he83 (Ext.trans he86 he95)
 replace hb80 := hb80.ext hm108
 have lt_b78_b104 := Nat.lt_of_lt_of_eq hb80.lt hs107.symm
 have ge_b104 := hE.ge hs107
 replace ho60 := ho60.ext hm108
 have on_vn58_b104 : vn58.ownBlock ≠ some b104 := fun h => absurd (ho60.lt _ h) (by rw [hs107]; exact Nat.lt_irrefl _)
 replace hE := hE.nx he105
 refine RL.gcall rfl rfl rfl rfl (by decide) (r_call (vl := [(.int .i64 5), (.int .i64 4)]) ent43 rfl) (l_entry (i := 5) (k := 4) (by decide)) ?_
 rintro _ w109 ⟨⟨vn111, vd112, rfl, hk113⟩, he110⟩
 obtain ⟨-, hn114, hd115, ln116, ln117⟩ := hk113
 replace hn114 := hn114.fr hE
 replace hd115 := hd115.fr hE
 replace hE := hE.nx he110
 refine RL.gcall rfl rfl rfl rfl (by decide) (r_call (vl := [(.int .i64 7), (.int .i64 1)]) ent43 rfl) (l_entry (i := 7) (k := 1) (by decide)) ?_
 rintro _ w118 ⟨⟨vn120, vd121, rfl, hk122⟩, he119⟩
 obtain ⟨-, hn123, hd124, ln125, ln126⟩ := hk122
 replace hn123 := hn123.fr hE
 replace hd124 := hd124.fr hE
 replace hE := hE.nx he119
 refine RL.grun rfl rfl rfl rfl (by decide) (h_lit (vl := [(0, (.agg #[(.int .i64 5), (.bool (decide (((4 : Int) : Rat).num < 0))), vn111, vd112])), (1, (.agg #[(.int .i64 7), (.bool (decide (((1 : Int) : Rat).num < 0))), vn120, vd121]))]) (cs := [(.int .i64 5), (.bool (decide (((4 : Int) : Rat).num < 0))), vn111, vd112, (.int .i64 7), (.bool (decide (((1 : Int) : Rat).num < 0))), vn120, vd121]) underlying22 ty58 rfl (by decide) (by first | (simp [Instr.fill, Value.cells]; done) | rfl | kernel_rfl)) ?_
 rintro _ w127 ⟨b128, rfl, hs131, hb130, he129⟩
 replace hb106 := hb106.ext (Ext.trans he110 he119)
 have lt_b104_b128 := Nat.lt_of_lt_of_eq hb106.lt hs131.symm
 have ge_b128 := hE.ge hs131
 have hm132 := Ext.trans he105 (Ext.trans he110 he119)
 replace ho60 := ho60.ext hm132
 have on_vn58_b128 : vn58.ownBlock ≠ some b128 := fun h => absurd (ho60.lt _ h) (by rw [hs131]; exact Nat.lt_irrefl _)
 replace hE := hE.nx he129
 replace hb106 := hb106.ext he129
 have hm135 := Ext.trans he95 (Ext.trans he105 (Ext.trans he110 (Ext.trans he119 he129)))
 replace hn90 := hn90.tr (Sm.ext hm135)
 replace hd91 := hd91.tr (Sm.ext hm135)
 have hm136 := Ext.trans hm132 he129
 replace hn99 := hn99.tr (Sm.ext hm136)
 replace hd100 := hd100.tr (Sm.ext hm136)
 have hlit134 := Ec.lit (L := 3) (D := (fun b _ => w.heap.size ≤ b)) (T := 58) [((0, decide (((2 : Int) : Rat).num < 0), vn87, vd88), ((2 : Int) : Rat)), ((5, decide (((3 : Int) : Rat).num < 0), vn96, vd97), ((3 : Int) : Rat))] hb106 ge_b104 (Nat.le_of_ble_eq_true rfl) (List.forall_mem_cons.2 ⟨⟨rfl, hn90.mono (fun _ _ h => h.1), hd91.mono (fun _ _ h => h.1), ln92, ln93⟩, (List.forall_mem_cons.2 ⟨⟨rfl, hn99.mono (fun _ _ h => h.1), hd100.mono (fun _ _ h => h.1), ln101, ln102⟩, (fun _ h => by cases h)⟩)⟩)
 replace hn114 := hn114.tr (Sm.ext (Ext.trans he119 he129))
 replace hd115 := hd115.tr (Sm.ext (Ext.trans he119 he129))
 replace hn123 := hn123.tr (Sm.ext he129)
 replace hd124 := hd124.tr (Sm.ext he129)
 have hlit137 := Ec.lit (L := 3) (D := (fun b _ => w.heap.size ≤ b)) (T := 58) [((5, decide (((4 : Int) : Rat).num < 0), vn111, vd112), ((4 : Int) : Rat)), ((7, decide (((1 : Int) : Rat).num < 0), vn120, vd121), ((1 : Int) : Rat))] hb130 ge_b128 (Nat.le_of_ble_eq_true rfl) (List.forall_mem_cons.2 ⟨⟨rfl, hn114.mono (fun _ _ h => h.1), hd115.mono (fun _ _ h => h.1), ln116, ln117⟩, (List.forall_mem_cons.2 ⟨⟨rfl, hn123.mono (fun _ _ h => h.1), hd124.mono (fun _ _ h => h.1), ln125, ln126⟩, (fun _ h => by cases h)⟩)⟩)
 refine RL.gcall rfl rfl rfl rfl (by decide) (r_call (vl := [(.slice (some ⟨b104, 0, none⟩) (2) (2)), (.slice (some ⟨b128, 0, none⟩) (2) (2))]) ent20 rfl) (v_dot (x := [(0, ((2 : Int) : Rat)), (5, ((3 : Int) : Rat))]) (y := [(5, ((4 : Int) : Rat)), (7, ((1 : Int) : Rat))]) (M := 100) hlit134.rd hlit137.rd (.inr (by decide)) (by decide) (.inr (by decide)) (by decide) (by decide)) ?_
 rintro vt1 w133 ⟨⟨vq, uq, hvq, hqx, hqd, _, _⟩, he138⟩
 rw [awk_dot] at hvq
 subst hvq
 replace hE := hE.nx he138
 rw [awk_dot] at hqx hqd
 refine RL.gcall rfl rfl rfl rfl (by decide) (r_call (vl := [(.int .i64 12)]) ent23 rfl) (r03_from (by omega)) ?_
 rintro _ w139 ⟨⟨vn141, vd143, rfl, hn142, hd144, hl145, hl146⟩, he140⟩
 have hlv147 := den_one ((12 : Int) : Rat)
 replace hn142 := hn142.fr hE
 replace hd144 := hd144.fr hE
 replace hE := hE.nx he140
 replace hqx := hqx.tr (Sm.ext he140)
 replace hqd := hqd.tr (Sm.ext he140)
 refine RL.gcall rfl rfl rfl rfl (by decide) (r_call (vl := [(.agg #[(.bool (decide (((12 : Int) : Rat).num < 0))), vq, uq]), (.agg #[(.bool (decide (((12 : Int) : Rat).num < 0))), vn141, vd143])]) ent19 rfl) (r03_eqt hqx hqd hn142 hd144) ?_
 rintro _ w148 ⟨rfl, he149⟩
 replace hE := hE.nx he149
 refine rV (r_pick_t (v := (.bool true)) rfl rfl) (mV (v := (.bool true)) rfl ?_)
 refine RL.gval rfl rfl rfl rfl (by decide) (r_move_as (v := (.bool true)) rfl) ?_
 refine rV (r_pick_t (v := (.bool true)) rfl rfl) (mV (v := (.bool true)) rfl ?_)
 refine RL.gval rfl rfl rfl rfl (by decide) (r_move_as (v := vp0) rfl) ?_
 refine RL.gcall rfl rfl rfl rfl (by decide) (r_call (vl := [(.int .i64 2), (.int .i64 5)]) ent43 rfl) (l_entry (i := 2) (k := 5) (by decide)) ?_
 rintro _ w150 ⟨⟨vn152, vd153, rfl, hk154⟩, he151⟩
 obtain ⟨-, hn155, hd156, ln157, ln158⟩ := hk154
 replace hn155 := hn155.fr hE
 replace hd156 := hd156.fr hE
 replace hE := hE.nx he151
 refine RL.grun rfl rfl rfl rfl (by decide) (h_lit (vl := [(0, (.agg #[(.int .i64 2), (.bool (decide (((5 : Int) : Rat).num < 0))), vn152, vd153]))]) (cs := [(.int .i64 2), (.bool (decide (((5 : Int) : Rat).num < 0))), vn152, vd153]) underlying22 ty58 rfl (by decide) (by first | (simp [Instr.fill, Value.cells]; done) | rfl | kernel_rfl)) ?_
 rintro _ w159 ⟨b160, rfl, hs163, hb162, he161⟩
 have hm164 := Ext.trans he138 (Ext.trans he140 (Ext.trans he149 he151))
 replace hb130 := hb130.ext hm164
 have lt_b128_b160 := Nat.lt_of_lt_of_eq hb130.lt hs163.symm
 have ge_b160 := hE.ge hs163
 have hm165 := Ext.trans he129 (Ext.trans he138 (Ext.trans he140 (Ext.trans he149 he151)))
 replace ho60 := ho60.ext hm165
 have on_vn58_b160 : vn58.ownBlock ≠ some b160 := fun h => absurd (ho60.lt _ h) (by rw [hs163]; exact Nat.lt_irrefl _)
 replace hE := hE.nx he161
 replace hn155 := hn155.tr (Sm.ext he161)
 replace hd156 := hd156.tr (Sm.ext he161)
 have hlit168 := Ec.lit (L := 3) (D := (fun b _ => w.heap.size ≤ b)) (T := 58) [((2, decide (((5 : Int) : Rat).num < 0), vn152, vd153), ((5 : Int) : Rat))] hb162 ge_b160 (Nat.le_of_ble_eq_true rfl) (List.forall_mem_cons.2 ⟨⟨rfl, hn155.mono (fun _ _ h => h.1), hd156.mono (fun _ _ h => h.1), ln157, ln158⟩, (fun _ h => by cases h)⟩)
 have hm169 := Ext.trans he24 (Ext.trans he33 (Ext.trans he42 (Ext.trans he52 (Ext.trans he57 (Ext.trans he69 (Ext.trans he79 (Ext.trans he83 (Ext.trans he86 (Ext.trans he95 (Ext.trans he105 (Ext.trans he110 (Ext.trans he119 (Ext.trans he129 (Ext.trans he138 (Ext.trans he140 (Ext.trans he149 (Ext.trans he151 he161)))))))))))))))))
 replace hpe := hpe.tr (Sm.ext hm169)
 refine RL.gcall rfl rfl rfl rfl (by decide) (r_call (vl := [vp0, (.slice (some ⟨b160, 0, none⟩) (1) (1))]) ent15 rfl) (r06_ident (L := 101) (es := [(2, ((5 : Int) : Rat))]) (hpe.wide (by omega)) (hlit168.wide (by omega)) (by omega)) ?_
 rintro _ w166 ⟨rfl, he167⟩
 replace hE := hE.nx he167
 refine rV (r_pick_t (v := (.bool true)) rfl rfl) (aS (v := (.bool true)) rfl (RL.nil ?_))
 refine wret ?_
 refine ⟨[(.bool true)], ⟨rfl, trivial⟩, ?_⟩
 exact ⟨rfl, hE⟩
end Go.Proofs.YtffgajgibddfmaaGreat
namespace Go.Proofs.YtffgajgibddfmaaGreat
open Go.Vg Go.RowKit _root_.Go.Proofs.Tryz
set_option linter.unusedVariables false
open Go.Vm
theorem fit_le {n m t M : Nat} (h : n ≤ m) (h2 : (m + 1) * t ≤ M) : (n + 1) * t ≤ M := Nat.le_trans (Nat.mul_le_mul_right t (by omega)) h2
end Go.Proofs.YtffgajgibddfmaaGreat
namespace Go.Vg
open Go Go.RowKit Go.Vm
def Oi (w : World) (lo : Nat) (T : TypeId) (v : Value) (xs : List Int) : Prop := Ow w lo T 1 v xs.length (xs.map (gI .i64))
section
variable {D D' : Nat → TypeId → Prop} {w w' : World} {lo b : Nat} {T T' : TypeId} {v : Value} {xs : List Int} {l : List Value}
theorem Oi.nil : Oi w lo T (.slice none 0 0) [] := Ow.nil lo 1
theorem Oi.ext (h : Oi w lo T v xs) (e : Ext w w') : Oi w' lo T v xs := Ow.ext h e
theorem Oi.exo (h : Oi w lo T v xs) (e : Exc b w w') (hne : v.ownBlock ≠ some b) (_hb : Nb w b) : Oi w' lo T v xs := Ow.exo h e hne
theorem Oi.lt (h : Oi w lo T v xs) (b : Nat) (hb : v.ownBlock = some b) : b < w.heap.size := (World.ownsRow.lt h b hb).2
theorem Oi.one (h : Oi w lo T v xs) : v.oneCell' = true := Ow.one h
theorem Oi.len (h : Oi w lo T v xs) : ∃ A c, v = .slice A xs.length c ∧ xs.length ≤ c ∧ c ≤ 9223372036854775807 := Ow.len h
theorem Oi.gsm (h : Oi w lo T v xs) (hg : w.grownBy w' v.ownBlock) (hD : ∀ b, lo ≤ b → ¬ D' b T) : Sm D' w w' := Ow.sm h hg hD
theorem Oi.gbk (h : Oi w lo T v xs) (hg : w.grownBy w' v.ownBlock) (hb : Bk w b T' l) (hne : T' ≠ T) : Bk w' b T' l := Ow.bk h hg hb (.inr hne)
theorem Oi.gbo (_h : Oi w lo T v xs) (hg : w.grownBy w' v.ownBlock) (hb : Bk w b T' l) (hne : v.ownBlock ≠ some b) : Bk w' b T' l := (hg.block b hb.lt (fun he => hne he.symm)).trans hb
theorem Oi.gbe {w0 : World} {B : Nat} (h : Oi w lo T v xs) (hg : w.grownBy w' v.ownBlock) (hE : Below B w0 w) (hB : B ≤ lo) (hs : B ≤ w.heap.size) : Below B w0 w' := Ow.below h hg hE hB hs
theorem Oi.sg (h : Oi w lo T v xs) (hD : ∀ b, lo ≤ b → D b T) : Sg (gI .i64) D w v xs := Ow.sg h rfl rfl hD
end
section
variable {P : Program} {f : Nat → Value} {w : World} {dst : Option Tmp} {ty : TypeId} {pos : String} {aft : Array Edge} {g : Option (Nat × Bool)} {x y z : Operand} {t e : TypeId} {D D2 : Nat → TypeId → Prop}
theorem h_appendI {lo bytes : Nat} {zz v1 v2 : Value} {xs : List Int} {i0 : Int} (hu : P.underlying t = some (.slice e)) (ht : TyI P e 1 bytes zz) (hz : zz.cells.size = 1) (hx : ev f x = v1) (hy : ev f y = v2)
    (ho : Oi w lo e v1 xs) (hs : Sc D2 w 1 v2 1 [.int .i64 i0]) (h63 : xs.length + 1 ≤ maxLen) (hby : (xs.length + 1) * bytes ≤ 140737488355328) (hlo : lo ≤ w.heap.size) :
    Run P f ⟨dst, .call ⟨.builtin .append, #[x, y], #[t, t]⟩, ty, pos, aft, g⟩ w fun v w' => Oi w' lo e v (xs ++ [i0]) ∧ w.grownBy w' v1.ownBlock := by
  obtain ⟨v, w', hr, h4, h5⟩ := h_append (P := P) (f := f) (dst := dst) (ty := ty) (pos := pos) (aft := aft) (g := g) hu ht hz (by decide) hx hy ho hs (one_cons rfl one_nil) h63 hby hlo
  refine ⟨v, w', hr, ?_, h5⟩
  unfold Oi
  rw [List.length_append, List.length_singleton, List.map_append]
  exact h4
end
end Go.Vg
namespace Go.Proofs.YtffgajgibddfmaaGreat
open Go.Vg Go.RowKit _root_.Go.Proofs.Tryz
set_option linter.unusedVariables false
open Go.Vm
theorem cmpQ_rng (a b : Rat) : -1 ≤ cmpQ a b ∧ cmpQ a b ≤ 1 := by unfold cmpQ; (repeat split) <;> omega
theorem cmpQ_self (a : Rat) : cmpQ a a = 0 := by unfold cmpQ; rw [if_neg (by grind), if_neg (by grind)]
set_option maxHeartbeats 1000000 in
theorem v_eq1 {w : World} {sx : Bool} {Dx Ex : Nat → TypeId → Prop} {vx ux : Value} {x dx : List Nat} (hx : Sg (gN .u32) Dx w vx x) (lmx : Lm x) (lnx : x.length ≤ 17179869184) (hdx : Sg (gN .u32) Ex w ux dx) (lmdx : Lm dx) (lndx : dx.length ≤ 17179869184) {qx : Rat} (ex : ratOf sx (val x) (val dx) = qx) {sy : Bool} {Dy Ey : Nat → TypeId → Prop} {vy uy : Value} {y dy : List Nat} (hy : Sg (gN .u32) Dy w vy y) (lmy : Lm y) (lny : y.length ≤ 17179869184) (hdy : Sg (gN .u32) Ey w uy dy) (lmdy : Lm dy) (lndy : dy.length ≤ 17179869184) {qy : Rat} (ey : ratOf sy (val y) (val dy) = qy) :
    Calls Tryz.prog 60 #[(.agg #[(.bool sx), vx, ux]), (.agg #[(.bool sy), vy, uy])] w fun e w' => ∃ v, e = .returned v ∧ (∃ vn vd, v = .agg #[.bool (decide (((cmpQ qx qy : Int) : Rat).num < 0)), vn, vd] ∧ Sg (gN .u32) (fun b T => w.heap.size ≤ b ∧ T = 96) w' vn (digs ((cmpQ qx qy : Int) : Rat).num.natAbs) ∧ Sg (gN .u32) (fun b T => w.heap.size ≤ b ∧ T = 96) w' vd (digs ((cmpQ qx qy : Int) : Rat).den) ∧ (digs ((cmpQ qx qy : Int) : Rat).num.natAbs).length ≤ 2 ∧ (digs ((cmpQ qx qy : Int) : Rat).den).length ≤ 1) ∧ Ext w w' := by
 have hE : Below w.heap.size w w := Below.refl _ _
 have hlqx := rl_of lmx lmdx ex
 have hdqx := den_one qx
 have hlqy := rl_of lmy lmdy ey
 have hdqy := den_one qy
 refine calls_of (n := 9) (rs := [.cell 4 44]) func60 rfl rfl rfl (Nat.le_of_ble_eq_true rfl) ?_
 refine wset fun F0 hF0 => ?_
 refine wsr ?_
 refine rU (h_box (vv := (.agg #[(.bool sx), vx, ux])) (cs := [(.bool sx), vx, ux]) (hF0 0) rfl) ?_
 rintro _ w1 ⟨b2, rfl, hs5, hb4, he3⟩
 have ge_b2 := hE.ge hs5
 replace hE := hE.nx he3
 refine rU (h_box (vv := (.agg #[(.bool sy), vy, uy])) (cs := [(.bool sy), vy, uy]) (hF0 1) rfl) ?_
 rintro _ w6 ⟨b7, rfl, hs10, hb9, he8⟩
 have lt_b2_b7 := Nat.lt_of_lt_of_eq hb4.lt hs10.symm
 have ge_b7 := hE.ge hs10
 replace hE := hE.nx he8
 refine rU (h_alloc (cs := [(.bool false), (.slice none 0 0), (.slice none 0 0)]) ty44 rfl) ?_
 rintro _ w11 ⟨b12, rfl, hs15, hb14, he13⟩
 have lt_b7_b12 := Nat.lt_of_lt_of_eq hb9.lt hs15.symm
 have ge_b12 := hE.ge hs15
 replace hE := hE.nx he13
 refine RL.nil (wsr ?_)
 replace hb4 := hb4.ext (Ext.trans he8 he13)
 have hc16 := hb4.cells (o := 0) (cs := [(.bool sx), vx, ux]) rfl
 refine rV (r_loada (o := 0) (cs := [(.bool sx), vx, ux]) underlying44 ag44 ty44 rfl hc16) ?_
 replace hb9 := hb9.ext he13
 have hc17 := hb9.cells (o := 0) (cs := [(.bool sy), vy, uy]) rfl
 refine rV (r_loada (o := 0) (cs := [(.bool sy), vy, uy]) underlying44 ag44 ty44 rfl hc17) ?_
 have hm20 := Ext.trans he3 (Ext.trans he8 he13)
 replace hx := hx.tr (Sm.ext hm20)
 replace hdx := hdx.tr (Sm.ext hm20)
 replace hy := hy.tr (Sm.ext hm20)
 replace hdy := hdy.tr (Sm.ext hm20)
 refine RL.call rfl rfl (by decide) (r_call (vl := [(.agg #[(.bool sx), vx, ux]), (.agg #[(.bool sy), vy, uy])]) ent61 rfl) (q_compare hx (by assumption) (by first | omega | simp) hdx (by assumption) (by first | omega | simp) (show ratOf sx (val x) (val dx) = qx from ex) hy (by assumption) (by first | omega | simp) hdy (by assumption) (by first | omega | simp) (show ratOf sy (val y) (val dy) = qy from ey)) ?_
 rintro _ w18 ⟨rfl, he19⟩
 replace hE := hE.nx he19
 have hcr := cmpQ_rng qx qy
 refine cL ent49 (q_from (by omega)) rfl ?_
 rintro _ w21 ⟨⟨vn23, vd25, rfl, hn24, hd26, hl27, hl28⟩, he22⟩
 have hlv29 := den_one (((cmpQ qx qy) : Int) : Rat)
 replace hn24 := hn24.fr hE
 replace hd26 := hd26.fr hE
 replace hE := hE.nx he22
 replace hb14 := hb14.ext (Ext.trans he19 he22)
 refine RL.runs rfl rfl (h_store (vv := (.agg #[(.bool (decide ((((cmpQ qx qy) : Int) : Rat).num < 0))), vn23, vd25])) (cs := [(.bool (decide ((((cmpQ qx qy) : Int) : Rat).num < 0))), vn23, vd25]) (o := 0) ty44 rfl rfl rfl rfl (one_cons rfl (one_cons hn24.one (one_cons hd26.one one_nil))) hb14 (Nat.le_of_ble_eq_true rfl)) ?_
 rintro w30 ⟨hn31, hx32, hz33⟩
 replace hE := hE.nb hx32 ge_b12
 have nb_hx32 := (Nb.of hb14 (nu_cons rfl (nu_cons rfl (nu_cons rfl nu_nil))))
 replace hb14 : Bk w30 b12 44 [(.bool (decide ((((cmpQ qx qy) : Int) : Rat).num < 0))), vn23, vd25] := hn31
 refine RL.nil ?_
 refine wret ?_
 refine ⟨[(.agg #[(.bool (decide ((((cmpQ qx qy) : Int) : Rat).num < 0))), vn23, vd25])], ⟨⟨_, _, [(.bool (decide ((((cmpQ qx qy) : Int) : Rat).num < 0))), vn23, vd25], rfl, ⟨_, underlying44⟩, hb14.cells rfl, .inl ⟨ag44, ⟨_, _, ty44⟩, rfl⟩⟩, trivial⟩, ?_⟩
 have hq : (((cmpQ qx qy) : Int) : Rat) = ((cmpQ qx qy : Int) : Rat) := rfl
 rw [← hq]
 replace hn24 := hn24.apn hx32 nb_hx32
 replace hd26 := hd26.apn hx32 nb_hx32
 exact ⟨⟨_, _, rfl, hn24, hd26, by omega, by omega⟩, hE⟩
theorem op_eq {K L : Nat} (hL : L ≤ 8589934000) : OpOk Tryz.prog 60 [] none K L (2 * L + 3) (fun p q => ((cmpQ p q : Int) : Rat)) (fun _ _ => True) := fun _ _ h1 m1 l1 g1 n1 k1 e1 h2 m2 l2 g2 n2 k2 e2 =>
  (v_eq1 h1 m1 (by omega) g1 n1 (by omega) e1 h2 m2 (by omega) g2 n2 (by omega) e2).mono fun _ _ ⟨v, he, ⟨vn, vd, hv, a, b, c, d⟩, hE⟩ =>
    ⟨v, he, ⟨_, vn, vd, _, _, hv, a, digs_lm _, by omega, b, digs_lm _, by omega, ratOf_canon _, fun _ => ⟨rfl, rfl, rfl⟩⟩, trivial, Gro.of_ext hE⟩
set_option maxHeartbeats 1000000 in
theorem v_equal {w : World} {Lx : Nat} {Dx : Nat → TypeId → Prop} {vx : Value} {x : List Ent'} (hx0 : Es Lx Dx w vx x) {Ly : Nat} {Dy : Nat → TypeId → Prop} {vy : Value} {y : List Ent'} (hy0 : Es Ly Dy w vy y) {M : Nat} (hfx : (Asc x ∧ Lx ≤ M) ∨ (x.length + 1) * (Lx + 3) ≤ M) (hlx : x.length ≤ 524288) (hfy : (Asc y ∧ Ly ≤ M) ∨ (y.length + 1) * (Ly + 3) ≤ M) (hly : y.length ≤ 524288) (hM : M ≤ 8589934000) :
    Calls Tryz.prog 31 #[vx, vy] w fun e w' => ∃ v, e = .returned v ∧ (∃ r : Bool, v = .bool r ∧ ((∀ i, get x i = get y i) → r = true)) ∧ Ext w w' := by
 have hE : Below w.heap.size w w := Below.refl _ _
 have hx := hx0.old
 clear hx0
 have hy := hy0.old
 clear hy0
 refine calls_of (n := 14) (rs := [.tmp 4]) func31 rfl rfl rfl (Nat.le_of_ble_eq_true rfl) ?_
 refine wset fun F0 hF0 => ?_
 refine wsr (aS (v := (.bool false)) rfl (RL.nil (wsr (mV (v := vx) (hF0 0) ?_))))
 refine cL ent51 (v_arrange (es := x) (M := M) hx hfx (by omega)) rfl ?_
 rintro va4 w1 ⟨⟨esar3, hrar3, haar3, hgar3, hlar3⟩, he2⟩
 replace hE := hE.nx he2
 refine mV (v := vy) (hF0 1) ?_
 replace hy := hy.tr (Sm.ext he2)
 refine cL ent51 (v_arrange (es := y) (M := M) hy hfy (by omega)) rfl ?_
 rintro va8 w5 ⟨⟨esar7, hrar7, haar7, hgar7, hlar7⟩, he6⟩
 replace hE := hE.nx he6
 replace hrar3 := hrar3.tr (Sm.ext he6)
 refine RL.call rfl rfl (by decide) (r_call (vl := [va4, va8, (.func (.func 60) #[] #[])]) ent50 rfl) (v_merge (L := M) (D := (fun _ _ => True)) ((hrar3.mono (fun _ _ _ => trivial)).wide (by omega)) ((hrar7.mono (fun _ _ _ => trivial)).wide (by omega)) haar3 haar7 ent60 (op_eq (by omega)) (Nat.le_refl _) (j_true) (trivial) (fun k h => by cases h) (fun k T h => by cases h) (by omega) (by omega) (by omega) (by omega)) ?_
 rintro vm12 w9 ⟨⟨rs13, ps14, ho15, hm16, hj17, hl18, hp19, hw20⟩, hg10⟩
 replace ho15 := Oe.fr (D' := (fun b T => w.heap.size ≤ b ∧ T = 96)) (lo' := w.heap.size) ho15 hE.size (fun _ _ h => ⟨Nat.le_trans hE.size h.1, h.2⟩)
 have he11 := hg10.ext
 replace hE := hE.nx he11
 refine aS (v := vm12) rfl (RL.nil (wsr (mV (v := vm12) rfl ?_)))
 obtain ⟨A21, c22, hv23, hc24, hc25⟩ := ho15.len
 refine rV (r_len underlying22 hv23) (rV (r_eql (k := .i64) (a := ((rs13.length : Nat) : Int)) (b := 0) rfl rfl) (aS (v := (.bool (decide (((rs13.length : Nat) : Int) = 0)))) rfl (RL.nil ?_)))
 refine wret ?_
 refine ⟨[(.bool (decide (((rs13.length : Nat) : Int) = 0)))], ⟨rfl, trivial⟩, ?_⟩
 obtain ⟨f1, f2, f3⟩ := hm16.fin (by show ((cmpQ 0 0 : Int) : Rat) = 0; rw [cmpQ_self]; rfl)
 exact ⟨⟨_, rfl, fun h => decide_eq_true (by rw [show rs13 = [] from canon_ext _ [] f1 (by simp [Asc]) f2 (fun _ h => by cases h) (fun i => (f3 i).trans (by show ((cmpQ (get esar3 i) (get esar7 i) : Int) : Rat) = _; rw [hgar3 i, hgar7 i, h i, cmpQ_self]; rfl))]; rfl)⟩, hE⟩
set_option maxHeartbeats 1000000 in
theorem h_eqi {w : World} {Dx Dy : Nat → TypeId → Prop} {vx vy : Value} {xs : List Int} (hx0 : Sg (gI .i64) Dx w vx xs) (hy0 : Sg (gI .i64) Dy w vy xs) :
    Calls Tryz.prog 32 #[vx, vy] w fun e w' => ∃ v, e = .returned v ∧ v = .bool true ∧ Ext w w' := by
 have hE : Below w.heap.size w w := Below.refl _ _
 have hx := hx0
 have hy := hy0
 clear hx0 hy0
 refine calls_of (n := 26) (rs := [.tmp 4]) func32 rfl rfl rfl (Nat.le_of_ble_eq_true rfl) ?_
 refine wset fun F0 hF0 => ?_
 refine wsr (aS (v := (.bool false)) rfl (RL.nil (wseq (wsr (mV (v := vx) (hF0 0) ?_)))))
 obtain ⟨A1, c2, hv3, hc4, hc5⟩ := hx.len
 refine rV (r_len underlying23 hv3) (mV (v := vy) (hF0 1) ?_)
 obtain ⟨A6, c7, hv8, hc9, hc10⟩ := hy.len
 refine rV (r_len underlying23 hv8) (rV (r_neq (k := .i64) (a := ((xs.length : Nat) : Int)) (b := ((xs.length : Nat) : Int)) rfl rfl) (RL.nil ?_))
 refine wcond (b := decide (((xs.length : Nat) : Int) ≠ ((xs.length : Nat) : Int))) rfl (fun hb11 => ?_) (fun hb11 => ?_)
 ·have hb11p := of_decide_eq_true hb11
  exact absurd rfl hb11p
 ·have hb11p := of_decide_eq_false hb11
  refine wskip ?_
  refine wseq (wsr (aS (v := (.int .i64 0)) rfl (RL.nil ?_)))
  refine wblock ?_
  refine wset fun F12 hF13 => ?_
  refine wloop (σ := Nat) (fun (k : Nat) fl wl => Off [4, 5, 11, 12, 13, 14, 15, 16, 17, 18, 19, 20, 21, 22, 23, 24, 25] F12 fl ∧ fl 5 = (.int .i64 (k : Int)) ∧ (k ≤ xs.length) ∧ (Sg (gI .i64) Dx wl vx xs) ∧ (Sg (gI .i64) Dy wl vy xs) ∧ (Below w.heap.size w wl)) (fun (k : Nat) => xs.length - k) (0) ?_ ?_
  ·exact ⟨Off.refl _ _, (hF13 5).trans (rfl), Nat.zero_le _, hx, hy, hE⟩
  ·clear hx hy hE
   rintro k f14 w15 ⟨hoff16, hs17, hk, hx, hy, hE⟩
   refine wseq (wsr (mV hs17 (mV (v := vx) ((hoff16 0 rfl).trans ((hF13 0).trans (hF0 0))) (rV (r_len underlying23 hv3) (rV (r_lss (k := .i64) (a := (k : Int)) (b := ((xs.length : Nat) : Int)) rfl rfl) (RL.nil ?_))))))
   refine wcond (b := decide ((k : Int) < ((xs.length : Nat) : Int))) rfl (fun hb18 => ?_) (fun hb18 => ?_)
   ·have hb18p := of_decide_eq_true hb18
    refine wskip ?_
    refine wseq ?_
    refine wblock ?_
    refine wseq ?_
    refine wdraw mixed fun w19 he20 => ?_
    replace hE := hE.nx he20
    refine ra 0 rfl (fun _ => r_move_as (v := vx) ((hoff16 0 rfl).trans ((hF13 0).trans (hF0 0)))) ?_
    refine ra 1 rfl (fun _ => r_move_as (v := (.int .i64 (k : Int))) hs17) ?_
    replace hx := hx.tr (Sm.ext he20)
    obtain ⟨b21, o22, c23, hv24, hc25⟩ := hx.ix (i := (k : Int)) (k) (by omega) (by omega)
    refine ra 2 rfl (fun _ => r_indexAddr (i := (k : Int)) underlying23 ty3 hv24 rfl (by omega) (by omega)) ?_
    refine RA.rd 3 rfl (by kernel_rfl) rfl rfl rfl (by decide) (Ext.refl _) (fun u hu => r_load (v := (.int .i64 (xs.getD (k) default))) underlying3 ag3 rfl (cell_ext hu hc25)) ?_
    refine ra 4 rfl (fun _ => r_move_as (v := vy) ((hoff16 1 rfl).trans ((hF13 1).trans (hF0 1)))) ?_
    refine ra 5 rfl (fun _ => r_move_as (v := (.int .i64 (k : Int))) hs17) ?_
    replace hy := hy.tr (Sm.ext he20)
    obtain ⟨b26, o27, c28, hv29, hc30⟩ := hy.ix (i := (k : Int)) (k) (by omega) (by omega)
    refine ra 6 rfl (fun _ => r_indexAddr (i := (k : Int)) underlying23 ty3 hv29 rfl (by omega) (by omega)) ?_
    refine RA.rd 7 rfl (by kernel_rfl) rfl rfl rfl (by decide) (Ext.refl _) (fun u hu => r_load (v := (.int .i64 (xs.getD (k) default))) underlying3 ag3 rfl (cell_ext hu hc30)) ?_
    refine ra 8 rfl (fun _ => r_neq (k := .i64) (a := xs.getD (k) default) (b := xs.getD (k) default) rfl rfl) ?_
    refine RA.done (by kernel_rfl) ?_
    refine wcond (b := decide ((xs.getD (k) default) ≠ (xs.getD (k) default))) rfl (fun hb31 => ?_) (fun hb31 => ?_)
    ·have hb31p := of_decide_eq_true hb31
     exact absurd rfl hb31p
    ·have hb31p := of_decide_eq_false hb31
     refine wskip ?_
     refine wregion (mV hs17 (rV (r_add (k := .i64) (a := (k : Int)) (b := 1) (c := (k : Int) + 1) rfl rfl (wi64 (by omega))) (aS (v := (.int .i64 ((k : Int) + 1))) rfl (RL.nil ?_))))
     refine ⟨(k + 1), ⟨?_, ?_, ?_, ?_, ?_, ?_⟩, ?_⟩
     · exact (by repeat (first | exact hoff16 | refine Off.st ?_ (by decide) _))
     · first | rfl | exact int_eq (by omega) | exact bool_eq (by simp)
     · omega
     · exact hx
     · exact hy
     · exact hE
     · (try dsimp only)
       omega
   ·have hb18p := of_decide_eq_false hb18
    refine wexit ?_
    refine wsr (aS (v := (.bool true)) rfl (RL.nil ?_))
    refine wret ?_
    refine ⟨[(.bool true)], ⟨rfl, trivial⟩, ?_⟩
    exact ⟨rfl, hE⟩
def nzI (es : List Ent') : List Int := (es.filter fun e => decide (e.2 ≠ 0)).map Prod.fst
theorem nz_snoc {es : List Ent'} {k : Nat} (hk : k < es.length) : nzI (es.take (k + 1)) = if (es.getD k default).2 ≠ 0 then nzI (es.take k) ++ [(es.getD k default).1] else nzI (es.take k) := by
  unfold nzI
  rw [take_snoc es k hk, List.filter_append, List.map_append]
  generalize es.getD k default = e
  by_cases h : e.2 = 0 <;> simp [h]
theorem get_filter (es : List En) (i : Int) : get (es.filter fun e => decide (e.2 ≠ 0)) i = get es i := by
  induction es with
  | nil => rfl
  | cons e es ih =>
    by_cases h : e.2 = 0
    · rw [List.filter_cons_of_neg (by simp [h]), ih]
      show _ = (if e.1 = i then e.2 else 0) + get es i
      rw [h]; split <;> rw [Rat.zero_add]
    · rw [List.filter_cons_of_pos (by simp [h])]
      show _ + _ = _ + _
      rw [ih]
theorem nz_ext {a b : List Ent'} (ha : Asc a) (hb : Asc b) (h : ∀ i, get a i = get b i) : nzI a = nzI b := by
  unfold nzI
  rw [canon_ext (a.filter fun e => decide (e.2 ≠ 0)) (b.filter fun e => decide (e.2 ≠ 0)) (ha.sublist List.filter_sublist) (hb.sublist List.filter_sublist) (fun e he => by simpa using (List.mem_filter.1 he).2) (fun e he => by simpa using (List.mem_filter.1 he).2) (fun i => by rw [get_filter, get_filter, h])]
set_option maxHeartbeats 1000000 in
theorem v_support {w : World} {L : Nat} {Dx : Nat → TypeId → Prop} {vx : Value} {x : List Ent'} (hx0 : Es L Dx w vx x) {M : Nat} (hfx : (Asc x ∧ L ≤ M) ∨ (x.length + 1) * (L + 3) ≤ M) (hlx : x.length ≤ 524288) (hM : M ≤ 8589934000) :
    Calls Tryz.prog 33 #[vx] w fun e w' => ∃ v, e = .returned v ∧ (∃ ex, Asc ex ∧ (∀ i, get ex i = get x i) ∧ Sg (gI .i64) (fun b _ => w.heap.size ≤ b) w' v (nzI ex)) ∧ Ext w w' := by
 have hE : Below w.heap.size w w := Below.refl _ _
 have hx := hx0.old
 clear hx0
 refine calls_of (n := 24) (rs := [.tmp 2]) func33 rfl rfl rfl (Nat.le_of_ble_eq_true rfl) ?_
 refine wset fun F0 hF0 => ?_
 refine wsr (aS (v := (.slice none (0) (0))) rfl (RL.nil (wsr (aS (v := (.slice none (0) (0))) rfl (RL.nil (wseq (wsr (mV (v := vx) (hF0 0) ?_))))))))
 refine cL ent51 (v_arrange (es := x) (M := M) hx hfx (by omega)) rfl ?_
 rintro va4 w1 ⟨⟨esar3, hrar3, haar3, hgar3, hlar3⟩, he2⟩
 replace hE := hE.nx he2
 have hO := hrar3.old
 have hlo : w.heap.size ≤ w1.heap.size := hE.size
 have hEk : Below w1.heap.size w1 w1 := Below.refl _ _
 obtain ⟨A5, c6, hv7, hc8, hc9⟩ := hO.len
 refine rV (r_len underlying22 hv7) (mV (v := (.int .i64 0)) rfl (RL.nil ?_))
 refine wblock ?_
 refine wset fun F10 hF11 => ?_
 refine wloop (σ := Nat × List Int × Value) (fun (s : Nat × List Int × Value) fl wl => match s with | (k, cl, vr) => Off [3, 5, 9, 10, 11, 12, 13, 14, 15, 16, 17, 18, 19, 20, 21, 22] F10 fl ∧ fl 9 = (.int .i64 (k : Int)) ∧ fl 3 = vr ∧ (k ≤ esar3.length) ∧ (cl = nzI (esar3.take k)) ∧ (cl.length ≤ k) ∧ (Oi wl w1.heap.size 3 vr cl) ∧ (Es L (fun b T => Dx b T ∧ b < w.heap.size) wl vx x) ∧ (Below w.heap.size w wl) ∧ (Es (M) (fun b T => (fun b T => ((fun b T => Dx b T ∧ b < w.heap.size) b T ∧ b < w.heap.size) ∨ (w.heap.size ≤ b ∧ (T = 58 ∨ T = 96))) b T ∧ b < w1.heap.size) wl va4 esar3) ∧ (Below w1.heap.size w1 wl)) (fun (s : Nat × List Int × Value) => match s with | (k, cl, vr) => esar3.length - k) (0, [], (.slice none 0 0)) ?_ ?_
 ·replace hx := hx.tr (Sm.ext he2)
  exact ⟨Off.refl _ _, (hF11 9).trans (rfl), (hF11 3).trans (rfl), Nat.zero_le _, rfl, Nat.zero_le _, Oi.nil, hx, hE, hO, hEk⟩
 ·clear hx hE hO hEk
  rintro ⟨k, cl, vr⟩ f12 w13 ⟨hoff14, hs15, hs16, hk, hcl, hcn, hR, hx, hE, hO, hEk⟩
  refine wsr (rV (r_lss (k := .i64) (a := (k : Int)) (b := ((esar3.length : Nat) : Int)) hs15 ((hoff14 8 rfl).trans (hF11 8))) (RL.nil (wseq ?_)))
  refine wcond (b := decide ((k : Int) < ((esar3.length : Nat) : Int))) rfl (fun hb17 => ?_) (fun hb17 => ?_)
  ·have hb17p := of_decide_eq_true hb17
   refine wskip ?_
   refine wseq ?_
   refine wblock ?_
   refine wsr ?_
   obtain ⟨b18, o19, c20, s25, A23, B24, x26, d27, hv21, hc22, hx28, lm29, ln30, hd31, lm32, ln33, eq34⟩ := hO.ix (i := (k : Int)) (k) (by omega) (by omega)
   refine rV (r_indexAddr (i := (k : Int)) underlying22 ty58 ((((hoff14 7 rfl).trans (hF11 7))).trans hv21) hs15 (by omega) (by omega)) (rV (r_loada (cs := [(.int .i64 ((esar3.getD (k) default).1)), (.bool s25), (sv A23), (sv B24)]) underlying58 ag58 ty58 rfl hc22) ?_)
   refine rU (h_alloc (cs := [(.int .i64 0), (.bool false), (.slice none 0 0), (.slice none 0 0)]) ty58 rfl) ?_
   rintro _ w35 ⟨b36, rfl, hs39, hb38, he37⟩
   have ge_b36 := hE.ge hs39
   have gk_b36 := hEk.ge hs39
   have on_vr_b36 : vr.ownBlock ≠ some b36 := fun h => absurd (hR.lt _ h) (by rw [hs39]; exact Nat.lt_irrefl _)
   replace hE := hE.nx he37
   replace hEk := hEk.nx he37
   refine RL.runs rfl rfl (h_store (vv := (.agg #[(.int .i64 ((esar3.getD (k) default).1)), (.bool s25), (sv A23), (sv B24)])) (cs := [(.int .i64 ((esar3.getD (k) default).1)), (.bool s25), (sv A23), (sv B24)]) (o := 0) ty58 rfl rfl rfl rfl (one_cons rfl (one_cons rfl (one_cons hx28.one (one_cons hd31.one one_nil)))) hb38 (Nat.le_of_ble_eq_true rfl)) ?_
   rintro w40 ⟨hn41, hx42, hz43⟩
   replace hE := hE.nb hx42 ge_b36
   replace hEk := hEk.nb hx42 gk_b36
   have nb_hx42 := (Nb.of hb38 (nu_cons rfl (nu_cons rfl (nu_cons rfl (nu_cons rfl nu_nil)))))
   replace hb38 : Bk w40 b36 58 [(.int .i64 ((esar3.getD (k) default).1)), (.bool s25), (sv A23), (sv B24)] := hn41
   refine RL.nil (wsr (rV (r_fieldAddr underlying58 rfl ty44 rfl) ?_))
   have hc44 := hb38.cells (o := 1) (cs := [(.bool s25), (sv A23), (sv B24)]) rfl
   refine rV (r_loada (o := 1) (cs := [(.bool s25), (sv A23), (sv B24)]) underlying44 ag44 ty44 rfl hc44) ?_
   replace hx28 := (hx28.tr (Sm.ext he37)).apn hx42 nb_hx42
   replace hd31 := (hd31.tr (Sm.ext he37)).apn hx42 nb_hx42
   refine RL.call rfl rfl (by decide) (r_call (vl := [(.agg #[(.bool s25), (sv A23), (sv B24)])]) ent44 rfl) (q_sign hx28 lm29 (by first | omega | simp) hd31 lm32 (by first | omega | simp) (show ratOf s25 (val x26) (val d27) = (esar3.getD (k) default).2 from eq34)) ?_
   rintro _ w45 ⟨rfl, he46⟩
   replace hE := hE.nx he46
   replace hEk := hEk.nx he46
   refine rV (r_neq (k := .i64) (a := Int.sign ((esar3.getD (k) default).2).num) (b := 0) rfl rfl) (RL.nil ?_)
   refine wcond (b := decide ((Int.sign ((esar3.getD (k) default).2).num) ≠ 0)) rfl (fun hb47 => ?_) (fun hb47 => ?_)
   ·have hb47p := of_decide_eq_true hb47
    have hnz : (esar3.getD (k) default).2 ≠ 0 := fun h => hb47p ((sign_eq _).2 h)
    refine wregion (mV hs16 (rV (r_fieldAddr underlying58 rfl ty3 rfl) ?_))
    replace hb38 := hb38.ext he46
    have hc48 := hb38.cell (j := 0) (u := (.int .i64 ((esar3.getD (k) default).1))) rfl
    refine rV (r_load underlying3 ag3 rfl hc48) ?_
    refine rU (h_lit (vl := [(0, (.int .i64 ((esar3.getD (k) default).1)))]) (cs := [(.int .i64 ((esar3.getD (k) default).1))]) underlying23 ty3 rfl (by decide) (by first | (simp [Instr.fill, Value.cells]; done) | rfl | kernel_rfl)) ?_
    rintro _ w49 ⟨b50, rfl, hs53, hb52, he51⟩
    have lt_b36_b50 := Nat.lt_of_lt_of_eq hb38.lt hs53.symm
    have ge_b50 := hE.ge hs53
    have gk_b50 := hEk.ge hs53
    replace hR := ((hR.ext he37).exo hx42 on_vr_b36 nb_hx42).ext he46
    have on_vr_b50 : vr.ownBlock ≠ some b50 := fun h => absurd (hR.lt _ h) (by rw [hs53]; exact Nat.lt_irrefl _)
    replace hE := hE.nx he51
    replace hEk := hEk.nx he51
    replace hR := hR.ext he51
    refine rU (h_appendI (v1 := vr) (v2 := (.slice (some ⟨b50, 0, none⟩) (1) (1))) (i0 := (esar3.getD (k) default).1) underlying23 ty3 rfl rfl rfl hR (hb52.sc (D := fun _ _ => True) trivial rfl (by decide)) (by simp only [maxLen]; omega) (by omega) hEk.size) ?_
    rintro v55 w54 ⟨ho56, hg57⟩
    replace hE := hR.gbe hg57 hE hlo hE.size
    replace hEk := hR.gbe hg57 hEk (Nat.le_refl _) hEk.size
    refine aS (v := v55) rfl (RL.nil (wregion (rV (r_add (k := .i64) (a := (k : Int)) (b := 1) (c := (k : Int) + 1) hs15 rfl (wi64 (by omega))) (mV (v := (.int .i64 ((k : Int) + 1))) rfl (RL.nil ?_)))))
    replace hx := (((hx.tr (Sm.ext he37)).tr (Sm.exc hx42 (fun _ _ _ _ hd => absurd hd.2 (Nat.not_lt_of_le ge_b36)))).tr (Sm.ext (Ext.trans he46 he51))).tr (hR.gsm hg57 (fun b hb hd => absurd hd.2 (Nat.not_lt_of_le (Nat.le_trans hlo hb))))
    replace hO := (((hO.tr (Sm.ext he37)).tr (Sm.exc hx42 (fun _ _ _ _ hd => absurd hd.2 (Nat.not_lt_of_le gk_b36)))).tr (Sm.ext (Ext.trans he46 he51))).tr (hR.gsm hg57 (fun b hb hd => absurd hd.2 (Nat.not_lt_of_le hb)))
    refine ⟨(k + 1, (cl ++ [(esar3.getD (k) default).1]), v55), ⟨?_, ?_, ?_, ?_, ?_, ?_, ?_, ?_, ?_, ?_, ?_⟩, ?_⟩
    · exact (by repeat (first | exact hoff14 | refine Off.st ?_ (by decide) _))
    · first | rfl | exact int_eq (by omega) | exact bool_eq (by simp)
    · first | rfl | exact int_eq (by omega) | exact bool_eq (by simp)
    · omega
    · rw [hcl, nz_snoc (by omega), if_pos hnz]
    · rw [List.length_append, List.length_singleton]; omega
    · exact ho56
    · exact hx
    · exact hE
    · exact hO
    · exact hEk
    · (try dsimp only)
      omega
   ·have hb47p := of_decide_eq_false hb47
    have hz : (esar3.getD (k) default).2 = 0 := (sign_eq _).1 (by simpa using hb47p)
    refine wskip ?_
    refine wregion (rV (r_add (k := .i64) (a := (k : Int)) (b := 1) (c := (k : Int) + 1) hs15 rfl (wi64 (by omega))) (mV (v := (.int .i64 ((k : Int) + 1))) rfl (RL.nil ?_)))
    replace hR := ((hR.ext he37).exo hx42 on_vr_b36 nb_hx42).ext he46
    replace hx := ((hx.tr (Sm.ext he37)).tr (Sm.exc hx42 (fun _ _ _ _ hd => absurd hd.2 (Nat.not_lt_of_le ge_b36)))).tr (Sm.ext he46)
    replace hO := ((hO.tr (Sm.ext he37)).tr (Sm.exc hx42 (fun _ _ _ _ hd => absurd hd.2 (Nat.not_lt_of_le gk_b36)))).tr (Sm.ext he46)
    refine ⟨(k + 1, cl, vr), ⟨?_, ?_, ?_, ?_, ?_, ?_, ?_, ?_, ?_, ?_, ?_⟩, ?_⟩
    · exact (by repeat (first | exact hoff14 | refine Off.st ?_ (by decide) _))
    · first | rfl | exact int_eq (by omega) | exact bool_eq (by simp)
    · refine (hs16).trans ?_
      first | rfl | exact int_eq (by omega) | exact bool_eq (by simp)
    · omega
    · rw [hcl, nz_snoc (by omega), if_neg (fun h => h hz)]
    · omega
    · exact hR
    · exact hx
    · exact hE
    · exact hO
    · exact hEk
    · (try dsimp only)
      omega
  ·have hb17p := of_decide_eq_false hb17
   refine wexit ?_
   refine wsr (mV hs16 (aS (v := vr) rfl (RL.nil ?_)))
   refine wret ?_
   refine ⟨[vr], ⟨rfl, trivial⟩, ?_⟩
   have hR2 := hR
   rw [hcl, List.take_of_length_le (by omega)] at hR2
   exact ⟨⟨_, haar3, hgar3, hR2.sg (fun _ h => Nat.le_trans hlo h)⟩, hE⟩
end Go.Proofs.YtffgajgibddfmaaGreat
namespace Go.Proofs.YtffgajgibddfmaaGreat
open Go.Vg Go.RowKit _root_.Go.Proofs.Tryz
set_option linter.unusedVariables false
open Go.Vm
set_option maxHeartbeats 4000000 in
theorem l_repr {w : World} {Da : Nat → TypeId → Prop} {va : Value} {a : List Ent'} (ha : Es 1048576 Da w va a) {Db : Nat → TypeId → Prop} {vb : Value} {b : List Ent'} (hb : Es 1048576 Db w vb b) {sf : Bool} {Df : Nat → TypeId → Prop} {vf uf : Value} {f df : List Nat} (hf0 : Sg (gN .u32) Df w vf f) (lmf : Lm f) (lnf : f.length ≤ 1048576) (hdf0 : Sg (gN .u32) Df w uf df) (lmdf : Lm df) (lndf : df.length ≤ 1048576) :
    Calls Tryz.prog 7 #[va, vb, (.agg #[(.bool sf), vf, uf])] w fun e w' => ∃ v, e = .returned v ∧ v = .bool true ∧ Ext w w' := by
 have hE : Below w.heap.size w w := Below.refl _ _
 have hf := hf0.old
 clear hf0
 have hdf := hdf0.old
 clear hdf0
 refine calls_of (n := 63) (rs := [.tmp 6]) func7 rfl rfl rfl (Nat.le_of_ble_eq_true rfl) ?_
 refine wset fun F0 hF0 => ?_
 refine wsr ?_
 refine rU (h_box (vv := (.agg #[(.bool sf), vf, uf])) (cs := [(.bool sf), vf, uf]) (hF0 2) rfl) ?_
 rintro _ w1 ⟨b2, rfl, hs5, hb4, he3⟩
 have ge_b2 := hE.ge hs5
 replace hE := hE.nx he3
 refine aS (v := (.bool false)) rfl (RL.nil (wsr (mV (v := va) (hF0 0) ?_)))
 replace ha := ha.tr (Sm.ext he3)
 refine cL ent8 (l_short (L := 1048576) ha) rfl ?_
 rintro vs8 w6 ⟨hr9, he7⟩
 replace hE := hE.nx he7
 have hsl10 := shL_len a
 refine mV (v := vb) (hF0 1) ?_
 replace hb := hb.tr (Sm.ext (Ext.trans he3 he7))
 refine cL ent8 (l_short (L := 1048576) hb) rfl ?_
 rintro vs13 w11 ⟨hr14, he12⟩
 replace hE := hE.nx he12
 have hsl15 := shL_len b
 refine aS (v := vs8) rfl (aS (v := vs13) rfl (RL.nil (wsr (mV (v := vs8) rfl ?_))))
 replace hr9 := hr9.tr (Sm.ext he12)
 refine cL (vl := [vs8]) ent30 (v_norm (x := (shL a)) (L := 1048576) (M := 42991739) hr9 (.inr (fit_le (m := 40) (by omega) (by decide))) (by omega) (by decide)) rfl ?_
 rintro vn18 w16 ⟨⟨rs19, ho20, ha21, hz22, hg23, hl24, hw25⟩, he17⟩
 replace ho20 := Oe.fr (D' := (fun b T => w.heap.size ≤ b ∧ T = 96)) (lo' := w.heap.size) ho20 hE.size (fun _ _ h => ⟨Nat.le_trans hE.size h.1, h.2⟩)
 replace hE := hE.nx he17
 refine aS (v := vn18) rfl (RL.nil (wseq ?_))
 replace hr9 := hr9.tr (Sm.ext he17)
 have hOa := hr9.old
 replace hr14 := hr14.tr (Sm.ext he17)
 have hOb := hr14.old
 have hX := (ho20.rd (D' := (fun b _ => w.heap.size ≤ b)) (fun _ h => h) (fun _ _ h => h.1)).old
 have hlo : w.heap.size ≤ w16.heap.size := hE.size
 have hEk : Below w16.heap.size w16 w16 := Below.refl _ _
 have hrl : ((shL a).reverse).length ≤ 40 := by rw [List.length_reverse]; exact shL_len a
 refine wregion (aS (v := (.slice none (0) (0))) rfl (RL.nil (wseq (wsr (mV (v := vs8) rfl ?_)))))
 obtain ⟨A26, c27, hv28, hc29, hc30⟩ := hOa.len
 refine rV (r_len underlying22 hv28) (rV (r_sub (k := .i64) (a := (((shL a).length : Nat) : Int)) (b := 1) (c := (((shL a).length : Nat) : Int) - 1) rfl rfl ((wi64 (by omega)).trans (by omega))) (aS (v := (.int .i64 ((((shL a).length : Nat) : Int) - 1))) rfl (RL.nil ?_)))
 refine wblock ?_
 refine wset fun F31 hF32 => ?_
 refine wloop (σ := Nat × Value) (fun (s : Nat × Value) fl wl => match s with | (k, vr) => Off [8, 9, 19, 20, 21, 22, 23, 24, 25, 26, 27, 28, 29] F31 fl ∧ fl 9 = (.int .i64 ((k : Int) - 1)) ∧ fl 8 = vr ∧ (k ≤ (shL a).length) ∧ (Oz 1048576 (fun b T => (fun b T => (Da b T ∧ b < w1.heap.size) ∨ w1.heap.size ≤ b) b T ∧ b < w16.heap.size) wl w16.heap.size 58 vr ((shL a).drop k).reverse) ∧ (Sg (gN .u32) (fun b T => Df b T ∧ b < w.heap.size) wl vf f) ∧ (Sg (gN .u32) (fun b T => Df b T ∧ b < w.heap.size) wl uf df) ∧ (Below w.heap.size w wl) ∧ (Bk wl b2 44 [(.bool sf), vf, uf]) ∧ (Es (1048576) (fun b T => (fun b T => (Da b T ∧ b < w1.heap.size) ∨ w1.heap.size ≤ b) b T ∧ b < w16.heap.size) wl vs8 (shL a)) ∧ (Es (1048576) (fun b T => (fun b T => (Db b T ∧ b < w6.heap.size) ∨ w6.heap.size ≤ b) b T ∧ b < w16.heap.size) wl vs13 (shL b)) ∧ (Es ((42991739 + 1)) (fun b T => (fun b _ => w.heap.size ≤ b) b T ∧ b < w16.heap.size) wl vn18 rs19) ∧ (Below w16.heap.size w16 wl)) (fun (s : Nat × Value) => match s with | (k, vr) => k) ((shL a).length, (.slice none 0 0)) ?_ ?_
 ·have hm33 := Ext.trans he3 (Ext.trans he7 (Ext.trans he12 he17))
  replace hf := hf.tr (Sm.ext hm33)
  replace hdf := hdf.tr (Sm.ext hm33)
  have hm34 := Ext.trans he7 (Ext.trans he12 he17)
  replace hb4 := hb4.ext hm34
  exact ⟨Off.refl _ _, (hF32 9).trans (rfl), (hF32 8).trans (rfl), Nat.le_refl _, (by rw [List.drop_length]; exact Oz.nil), hf, hdf, hE, hb4, hOa, hOb, hX, hEk⟩
 ·clear ha hb hf hdf hE hb4 hOa hOb hX hEk
  rintro ⟨k, vr⟩ f35 w36 ⟨hoff37, hs38, hs39, hk, hR, hf, hdf, hE, hb4, hOa, hOb, hX, hEk⟩
  refine wseq (wsr (mV hs38 (rV (r_geq (k := .i64) (a := (k : Int) - 1) (b := 0) rfl rfl) (RL.nil ?_))))
  refine wcond (b := decide (0 ≤ ((k : Int) - 1))) rfl (fun hb40 => ?_) (fun hb40 => ?_)
  ·have hb40p := of_decide_eq_true hb40
   refine wskip ?_
   refine wseq ?_
   refine wblock ?_
   have hskl : (((shL a).drop k).reverse).length = (shL a).length - k := by rw [List.length_reverse, List.length_drop]
   refine wregion (mV hs39 (mV (v := vs8) ((hoff37 0 rfl).trans (hF32 0)) (mV hs38 ?_)))
   obtain ⟨b41, o42, c43, s48, A46, B47, x49, d50, hv44, hc45, hx51, lm52, ln53, hd54, lm55, ln56, eq57⟩ := hOa.ix (i := (k : Int) - 1) (k - 1) (by omega) (by omega)
   refine rV (r_indexAddr (i := (k : Int) - 1) underlying22 ty58 hv44 rfl (by omega) (by omega)) (rV (r_loada (cs := [(.int .i64 (((shL a).getD (k - 1) default).1)), (.bool s48), (sv A46), (sv B47)]) underlying58 ag58 ty58 rfl hc45) ?_)
   refine rU (h_lit (vl := [(0, (.agg #[(.int .i64 (((shL a).getD (k - 1) default).1)), (.bool s48), (sv A46), (sv B47)]))]) (cs := [(.int .i64 (((shL a).getD (k - 1) default).1)), (.bool s48), (sv A46), (sv B47)]) underlying22 ty58 rfl (by decide) (by first | (simp [Instr.fill, Value.cells]; done) | rfl | kernel_rfl)) ?_
   rintro _ w58 ⟨b59, rfl, hs62, hb61, he60⟩
   have lt_b2_b59 := Nat.lt_of_lt_of_eq hb4.lt hs62.symm
   have ge_b59 := hE.ge hs62
   have gk_b59 := hEk.ge hs62
   have on_vr_b59 : vr.ownBlock ≠ some b59 := fun h => absurd (hR.lt _ h) (by rw [hs62]; exact Nat.lt_irrefl _)
   replace hE := hE.nx he60
   replace hEk := hEk.nx he60
   replace hR := hR.ext he60
   replace hx51 := hx51.tr (Sm.ext he60)
   replace hd54 := hd54.tr (Sm.ext he60)
   refine rU (h_appendZ (v1 := vr) (v2 := (.slice (some ⟨b59, 0, none⟩) (1) (1))) (q := ((shL a).getD (k - 1) default).2) underlying22 ty58 rfl rfl rfl hR (hb61.sc (D := fun _ _ => True) trivial rfl (by decide)) (Rz.of (L := 1048576) hx51 lm52 (by omega) hd54 lm55 (by omega) (show ratOf s48 (val x49) (val d50) = ((shL a).getD (k - 1) default).2 from eq57)) (fun b hb hd => absurd hd.2 (Nat.not_lt_of_le hb)) (by simp only [maxLen]; omega) (by omega) hEk.size) ?_
   rintro v64 w63 ⟨ho65, hg66⟩
   replace hE := hR.gbe hg66 hE hlo hE.size
   replace hEk := hR.gbe hg66 hEk (Nat.le_refl _) hEk.size
   refine aS (v := v64) rfl (RL.nil (wregion (mV hs38 (rV (r_sub (k := .i64) (a := (k : Int) - 1) (b := 1) (c := ((k - 1 : Nat) : Int) - 1) rfl rfl ((wi64 (by omega)).trans (by omega))) (aS (v := (.int .i64 (((k - 1 : Nat) : Int) - 1))) rfl (RL.nil ?_))))))
   replace hf := (hf.tr (Sm.ext he60)).tr (hR.gsm hg66 (fun b hb hd => absurd hd.2 (Nat.not_lt_of_le (Nat.le_trans hlo hb))))
   replace hdf := (hdf.tr (Sm.ext he60)).tr (hR.gsm hg66 (fun b hb hd => absurd hd.2 (Nat.not_lt_of_le (Nat.le_trans hlo hb))))
   replace hb4 := hR.gbk hg66 (hb4.ext he60) (by decide)
   replace hOa := (hOa.tr (Sm.ext he60)).tr (hR.gsm hg66 (fun b hb hd => absurd hd.2 (Nat.not_lt_of_le hb)))
   replace hOb := (hOb.tr (Sm.ext he60)).tr (hR.gsm hg66 (fun b hb hd => absurd hd.2 (Nat.not_lt_of_le hb)))
   replace hX := (hX.tr (Sm.ext he60)).tr (hR.gsm hg66 (fun b hb hd => absurd hd.2 (Nat.not_lt_of_le hb)))
   refine ⟨(k - 1, v64), ⟨?_, ?_, ?_, ?_, ?_, ?_, ?_, ?_, ?_, ?_, ?_, ?_, ?_⟩, ?_⟩
   · exact (by repeat (first | exact hoff37 | refine Off.st ?_ (by decide) _))
   · first | rfl | exact int_eq (by omega) | exact bool_eq (by simp)
   · first | rfl | exact int_eq (by omega) | exact bool_eq (by simp)
   · omega
   · have hdc := drop_cons (shL a) (k - 1) (by omega); rw [show k - 1 + 1 = k by omega] at hdc; rw [hdc, List.reverse_cons]; exact ho65
   · exact hf
   · exact hdf
   · exact hE
   · exact hb4
   · exact hOa
   · exact hOb
   · exact hX
   · exact hEk
   · (try dsimp only)
     omega
  ·have hb40p := of_decide_eq_false hb40
   refine wexit ?_
   refine wseq ?_
   have hRr := hR.rd (D' := DT) (fun _ _ => trivial) (fun _ _ _ => trivial)
   rw [show k = 0 by omega, List.drop_zero] at hRr
   refine wdraw mixed fun w67 he68 => ?_
   replace hE := hE.nx he68
   replace hEk := hEk.nx he68
   refine RA.all [0] (by kernel_rfl) rfl ?_
   refine RS.call rfl rfl rfl (by decide) (r_call (vl := []) ent16 rfl) (l_awake) ?_ RS.nil
   rintro _ w69 ⟨rfl, he70⟩
   refine rm he70 ?_
   replace hE := hE.nx he70
   replace hEk := hEk.nx he70
   refine ra 1 rfl (fun _ => r_move_as (v := (.bool true)) rfl) ?_
   refine RA.gtake 2 rfl (by kernel_rfl) rfl rfl rfl rfl (by decide) (fun _ => r_move_as (v := vn18) ((hoff37 7 rfl).trans (hF32 7))) ?_
   replace hb4 := hb4.ext (Ext.trans he68 he70)
   have hc71 := hb4.cells (o := 0) (cs := [(.bool sf), vf, uf]) rfl
   refine RA.grd 3 rfl (by kernel_rfl) rfl rfl rfl rfl rfl (by decide) (Ext.refl _) (fun u hu => r_loada (o := 0) (cs := [(.bool sf), vf, uf]) underlying44 ag44 ty44 ((hoff37 5 rfl).trans (hF32 5)) (fun j v hj => cell_ext hu (hc71 j v hj))) ?_
   refine RA.gtake 4 rfl (by kernel_rfl) rfl rfl rfl rfl (by decide) (fun _ => r_move_as (v := vs13) ((hoff37 1 rfl).trans (hF32 1))) ?_
   refine RA.gtake 6 rfl (by kernel_rfl) rfl rfl rfl rfl (by decide) (fun _ => r_move_as (v := vr) hs39) ?_
   have hc72 := hb4.cells (o := 0) (cs := [(.bool sf), vf, uf]) rfl
   refine RA.grd 7 rfl (by kernel_rfl) rfl rfl rfl rfl rfl (by decide) (Ext.refl _) (fun u hu => r_loada (o := 0) (cs := [(.bool sf), vf, uf]) underlying44 ag44 ty44 ((hoff37 5 rfl).trans (hF32 5)) (fun j v hj => cell_ext hu (hc72 j v hj))) ?_
   refine RA.gtake 8 rfl (by kernel_rfl) rfl rfl rfl rfl (by decide) (fun _ => r_move_as (v := vs13) ((hoff37 1 rfl).trans (hF32 1))) ?_
   refine RA.all [5] (by kernel_rfl) rfl ?_
   replace hX := hX.tr (Sm.ext (Ext.trans he68 he70))
   replace hOb := hOb.tr (Sm.ext (Ext.trans he68 he70))
   replace hf := hf.tr (Sm.ext (Ext.trans he68 he70))
   replace hdf := hdf.tr (Sm.ext (Ext.trans he68 he70))
   refine RS.gcall rfl rfl rfl rfl rfl (by decide) (r_call (vl := [vn18, (.agg #[(.bool sf), vf, uf]), vs13]) ent22 rfl) (v_ads (M := 42991740) (x := rs19) (y := (shL b)) hX hOb (.inl ⟨ha21, by decide⟩) (by omega) (.inr (fit_le (m := 40) (by omega) (by decide))) (by omega) (by decide) hf lmf (by omega) hdf lmdf (by omega) rfl) ?_ RS.nil
   rintro vn75 w73 ⟨⟨rs76, ho77, ha78, hz79, hg80, hl81, hw82⟩, he74⟩
   refine rm he74 ?_
   replace ho77 := Oe.fr (D' := (fun b T => w.heap.size ≤ b ∧ T = 96)) (lo' := w.heap.size) ho77 hE.size (fun _ _ h => ⟨Nat.le_trans hE.size h.1, h.2⟩)
   replace hE := hE.nx he74
   replace hEk := hEk.nx he74
   refine RA.all [9] (by kernel_rfl) rfl ?_
   have hm93 := Ext.trans he68 (Ext.trans he70 he74)
   replace hRr := hRr.tr (Sm.ext hm93)
   replace hOb := hOb.tr (Sm.ext he74)
   replace hf := hf.tr (Sm.ext he74)
   replace hdf := hdf.tr (Sm.ext he74)
   refine RS.gcall rfl rfl rfl rfl rfl (by decide) (r_call (vl := [vr, (.agg #[(.bool sf), vf, uf]), vs13]) ent22 rfl) (v_ads (M := 42991740) (x := ((shL a).reverse)) (y := (shL b)) hRr hOb (.inr (fit_le (m := 40) (by omega) (by decide))) (by omega) (.inr (fit_le (m := 40) (by omega) (by decide))) (by omega) (by decide) hf lmf (by omega) hdf lmdf (by omega) rfl) ?_ RS.nil
   rintro vn85 w83 ⟨⟨rs86, ho87, ha88, hz89, hg90, hl91, hw92⟩, he84⟩
   refine rm he84 ?_
   replace ho87 := Oe.fr (D' := (fun b T => w.heap.size ≤ b ∧ T = 96)) (lo' := w.heap.size) ho87 hE.size (fun _ _ h => ⟨Nat.le_trans hE.size h.1, h.2⟩)
   replace hE := hE.nx he84
   replace hEk := hEk.nx he84
   refine RA.all [10] (by kernel_rfl) rfl ?_
   have hsame39 : rs76 = rs86 := canon_ext _ _ ha78 ha88 hz79 hz89 (fun i => by rw [hg80 i, hg90 i, get_perm (List.reverse_perm (shL a)) i, hg23 i])
   rw [← hsame39] at ho87
   replace ho77 := ho77.ext he84
   refine RS.gcall rfl rfl rfl rfl rfl (by decide) (r_call (vl := [vn75, vn85]) ent15 rfl) (r06_ident (L := 17179869184) (es := rs76) ((ho77.ec (D' := (fun b _ => w.heap.size ≤ b)) (fun _ h => h) (fun _ _ h => h.1)).wide (by omega)) ((ho87.ec (D' := (fun b _ => w.heap.size ≤ b)) (fun _ h => h) (fun _ _ h => h.1)).wide (by omega)) (by omega)) ?_ RS.nil
   rintro _ w94 ⟨rfl, he95⟩
   refine rm he95 ?_
   replace hE := hE.nx he95
   replace hEk := hEk.nx he95
   refine ra 11 rfl (fun _ => r_pick_t (v := (.bool true)) rfl rfl) ?_
   refine ra 12 rfl (fun _ => r_move_as (v := (.bool true)) rfl) ?_
   refine RA.gtake 13 rfl (by kernel_rfl) rfl rfl rfl rfl (by decide) (fun _ => r_move_as (v := vn18) ((hoff37 7 rfl).trans (hF32 7))) ?_
   refine RA.gtake 14 rfl (by kernel_rfl) rfl rfl rfl rfl (by decide) (fun _ => r_move_as (v := vs13) ((hoff37 1 rfl).trans (hF32 1))) ?_
   refine RA.gtake 16 rfl (by kernel_rfl) rfl rfl rfl rfl (by decide) (fun _ => r_move_as (v := vr) hs39) ?_
   refine RA.gtake 17 rfl (by kernel_rfl) rfl rfl rfl rfl (by decide) (fun _ => r_move_as (v := vs13) ((hoff37 1 rfl).trans (hF32 1))) ?_
   refine RA.all [15] (by kernel_rfl) rfl ?_
   have hm104 := Ext.trans he74 (Ext.trans he84 he95)
   replace hX := hX.tr (Sm.ext hm104)
   replace hOb := hOb.tr (Sm.ext (Ext.trans he84 he95))
   refine RS.gcall rfl rfl rfl rfl rfl (by decide) (r_call (vl := [vn18, vs13]) ent20 rfl) (v_dot (M := 42991740) (x := rs19) (y := (shL b)) hX hOb (.inl ⟨ha21, by decide⟩) (by omega) (.inr (fit_le (m := 40) (by omega) (by decide))) (by omega) (by decide)) ?_ RS.nil
   rintro _ w96 ⟨⟨vq98, uq99, hv100, hq101, hd102, _, _⟩, he97⟩
   subst hv100
   refine rm he97 ?_
   replace hE := hE.nx he97
   replace hEk := hEk.nx he97
   refine RA.all [18] (by kernel_rfl) rfl ?_
   have hm113 := Ext.trans he84 (Ext.trans he95 he97)
   replace hRr := hRr.tr (Sm.ext hm113)
   replace hOb := hOb.tr (Sm.ext he97)
   refine RS.gcall rfl rfl rfl rfl rfl (by decide) (r_call (vl := [vr, vs13]) ent20 rfl) (v_dot (M := 42991740) (x := ((shL a).reverse)) (y := (shL b)) hRr hOb (.inr (fit_le (m := 40) (by omega) (by decide))) (by omega) (.inr (fit_le (m := 40) (by omega) (by decide))) (by omega) (by decide)) ?_ RS.nil
   rintro _ w105 ⟨⟨vq107, uq108, hv109, hq110, hd111, _, _⟩, he106⟩
   rw [show dtF ((shL a).reverse) (shL b) = (dtF rs19 (shL b)) from dtF_ext (fun i => by rw [get_perm (List.reverse_perm (shL a)) i, hg23 i]) (fun _ => rfl)] at hv109
   subst hv109
   refine rm he106 ?_
   replace hE := hE.nx he106
   replace hEk := hEk.nx he106
   have hdq112 : dtF ((shL a).reverse) (shL b) = (dtF rs19 (shL b)) := dtF_ext (fun i => by rw [get_perm (List.reverse_perm (shL a)) i, hg23 i]) (fun _ => rfl)
   rw [hdq112] at hq110 hd111
   refine RA.all [19] (by kernel_rfl) rfl ?_
   replace hq101 := hq101.tr (Sm.ext he106)
   replace hd102 := hd102.tr (Sm.ext he106)
   refine RS.gcall rfl rfl rfl rfl rfl (by decide) (r_call (vl := [(.agg #[(.bool (decide ((dtF rs19 (shL b)).num < 0))), vq98, uq99]), (.agg #[(.bool (decide ((dtF rs19 (shL b)).num < 0))), vq107, uq108])]) ent19 rfl) (r03_eqt hq101 hd102 hq110 hd111) ?_ RS.nil
   rintro _ w114 ⟨rfl, he115⟩
   refine rm he115 ?_
   replace hE := hE.nx he115
   replace hEk := hEk.nx he115
   refine ra 20 rfl (fun _ => r_pick_t (v := (.bool true)) rfl rfl) ?_
   refine ra 21 rfl (fun _ => r_move_as (v := (.bool true)) rfl) ?_
   refine RA.gtake 22 rfl (by kernel_rfl) rfl rfl rfl rfl (by decide) (fun _ => r_move_as (v := vn18) ((hoff37 7 rfl).trans (hF32 7))) ?_
   refine RA.gtake 23 rfl (by kernel_rfl) rfl rfl rfl rfl (by decide) (fun _ => r_move_as (v := vr) hs39) ?_
   refine RA.all [24] (by kernel_rfl) rfl ?_
   have hm120 := Ext.trans he97 (Ext.trans he106 he115)
   replace hX := hX.tr (Sm.ext hm120)
   replace hRr := hRr.tr (Sm.ext (Ext.trans he106 he115))
   refine RS.gcall rfl rfl rfl rfl rfl (by decide) (r_call (vl := [vn18, vr]) ent31 rfl) (v_equal (M := 42991740) (x := rs19) (y := ((shL a).reverse)) hX hRr (.inl ⟨ha21, by decide⟩) (by omega) (.inr (fit_le (m := 40) (by omega) (by decide))) (by omega) (by decide)) ?_ RS.nil
   rintro _ w116 ⟨⟨r118, rfl, hr119⟩, he117⟩
   obtain rfl := hr119 (fun i => by rw [get_perm (List.reverse_perm (shL a)) i, hg23 i])
   refine rm he117 ?_
   replace hE := hE.nx he117
   replace hEk := hEk.nx he117
   refine ra 25 rfl (fun _ => r_pick_t (v := (.bool true)) rfl rfl) ?_
   refine ra 26 rfl (fun _ => r_move_as (v := (.bool true)) rfl) ?_
   refine RA.gtake 27 rfl (by kernel_rfl) rfl rfl rfl rfl (by decide) (fun _ => r_move_as (v := vn18) ((hoff37 7 rfl).trans (hF32 7))) ?_
   refine RA.gtake 29 rfl (by kernel_rfl) rfl rfl rfl rfl (by decide) (fun _ => r_move_as (v := vr) hs39) ?_
   refine RA.all [28] (by kernel_rfl) rfl ?_
   replace hX := hX.tr (Sm.ext he117)
   refine RS.gcall rfl rfl rfl rfl rfl (by decide) (r_call (vl := [vn18]) ent33 rfl) (v_support (M := 42991740) (x := rs19) hX (.inl ⟨ha21, by decide⟩) (by omega) (by decide)) ?_ RS.nil
   rintro vs123 w121 ⟨⟨ex124, ha125, hg126, hS127⟩, he122⟩
   refine rm he122 ?_
   replace hE := hE.nx he122
   replace hEk := hEk.nx he122
   refine RA.all [30] (by kernel_rfl) rfl ?_
   replace hRr := hRr.tr (Sm.ext (Ext.trans he117 he122))
   refine RS.gcall rfl rfl rfl rfl rfl (by decide) (r_call (vl := [vr]) ent33 rfl) (v_support (M := 42991740) (x := ((shL a).reverse)) hRr (.inr (fit_le (m := 40) (by omega) (by decide))) (by omega) (by decide)) ?_ RS.nil
   rintro vs130 w128 ⟨⟨ex131, ha132, hg133, hS134⟩, he129⟩
   refine rm he129 ?_
   replace hE := hE.nx he129
   replace hEk := hEk.nx he129
   rw [show nzI ex131 = nzI ex124 from nz_ext ha132 ha125 (fun i => by rw [hg133 i, hg126 i, get_perm (List.reverse_perm (shL a)) i, hg23 i])] at hS134
   refine RA.all [31] (by kernel_rfl) rfl ?_
   replace hS127 := hS127.tr (Sm.ext he129)
   refine RS.gcall rfl rfl rfl rfl rfl (by decide) (r_call (vl := [vs123, vs130]) ent32 rfl) (h_eqi hS127 hS134) ?_ RS.nil
   rintro _ w135 ⟨rfl, he136⟩
   refine rm he136 ?_
   replace hE := hE.nx he136
   replace hEk := hEk.nx he136
   refine ra 32 rfl (fun _ => r_pick_t (v := (.bool true)) rfl rfl) ?_
   refine ra 33 rfl (fun _ => r_assign_as (v := (.bool true)) rfl) ?_
   refine RA.done (by kernel_rfl) ?_
   refine wret ?_
   refine ⟨[(.bool true)], ⟨rfl, trivial⟩, ?_⟩
   exact ⟨rfl, hE⟩
end Go.Proofs.YtffgajgibddfmaaGreat
namespace Go.Proofs.YtffgajgibddfmaaGreat
open Go.Vg Go.RowKit Go.Vm Go.ChangeShapes Go.WideShapes _root_.Go.Proofs.Tryz
namespace bulks
theorem one_le {H : Type} (d : DataW H) : 1 ≤ Rows.uptoBulk d := by
  cases d with
  | lit l => cases l <;> simp [Rows.uptoBulk]
  | nil => simp [Rows.uptoBulk]
  | ptr d => simp [Rows.uptoBulk]
  | slice elems spare => simp [Rows.uptoBulk]
  | agg parts => simp [Rows.uptoBulk]
  | iface t d => simp [Rows.uptoBulk]
  | map entries => simp [Rows.uptoBulk]
  | held h => simp [Rows.uptoBulk]
theorem part_le {H : Type} {d : DataW H} {l : List (DataW H)} (h : d ∈ l) : Rows.uptoBulk d ≤ Rows.uptoBulkAll l := by
  induction l with
  | nil => cases h
  | cons x r ih =>
    simp only [Rows.uptoBulkAll]
    cases List.mem_cons.1 h with
    | inl e => subst e; omega
    | inr e => have := ih e; omega
theorem length_le {H : Type} (l : List (DataW H)) : l.length ≤ Rows.uptoBulkAll l := by
  induction l with
  | nil => simp [Rows.uptoBulkAll]
  | cons x r ih => have := one_le x; simp only [Rows.uptoBulkAll, List.length_cons]; omega
end bulks
section
variable {H : Type} {enc : TypeId × Value → H} {w : World} {base : Nat} {spare : Nat → Bool} {held : Bool}
theorem flat_one (xs : List Nat) : (xs.map fun n : Nat => [(.int .u32 (n : Int) : Value)]).flatten = xs.map (gN .u32) := by
  induction xs with
  | nil => rfl
  | cons a l ih => rw [List.map_cons, List.flatten_cons, ih]; rfl
theorem sg_of_cells {x : Addr} {len cap : Nat} {xs : List Nat} (hl : xs.length = len) (hlc : len ≤ cap) (hm : cap ≤ maxLen) (hc : ∀ i, i < len → w.cell? (x.add i) = some (.int .u32 ((xs.getD i default : Nat) : Int))) : Sg (gN .u32) DT w (.slice (some x) len cap) xs := by
  have h := Ss.of_cells (c := fun n : Nat => [(.int .u32 (n : Int) : Value)]) (size := 1) (by decide) (fun _ => rfl) (w := w) (x := x) hl hlc hm (fun i hi j u hj => by
    match j, hj with
    | 0, hj =>
      have e : u = .int .u32 ((xs.getD i default : Nat) : Int) := by simpa using hj.symm
      rw [e]
      have := hc i hi
      simpa using this
    | j + 1, hj => simp at hj)
  obtain ⟨_, h2⟩ := h
  rw [flat_one] at h2
  exact h2
theorem open_limbs {fuel : Nat} {v : Value} {x : DataW H × List MemPlace} (h : DataW.trod enc Tryz.prog w base spare held fuel 40 [v] = some x) : ∃ (A : SV) (xs : List Nat), v = sv A ∧ Sg (gN .u32) DT w (sv A) xs ∧ Lm xs ∧ xs.length ≤ Rows.uptoBulk x.1 := by
  rcases Go.Deep.open_slice underlying40 h with ⟨hcs, _⟩ | ⟨a, len, cap, m, n, D, Pl, hcs, hb, hl, hm, hmm, rfl, hx⟩
  · injection hcs with hcs
    exact ⟨(none, 0, 0), [], hcs, Sg.nil, Lm.nil, Nat.zero_le _⟩
  · injection hcs with hcs
    have hlm : len ≤ m := by rw [hmm]; split <;> omega
    have each : ∀ i, i < len → ∃ z : Nat, w.cell? (a.add i) = some (.int .u32 (z : Int)) ∧ z < 4294967296 := fun i hi => by
      obtain ⟨cs', h1, h2⟩ := hx i (by omega)
      have ce : Tryz.prog.cellsOf 96 = 1 := by kernel_rfl
      rw [ce] at h1
      obtain ⟨_, hlen, hcell⟩ := World.cells?_some h1
      obtain ⟨z, rfl, _, hwf⟩ := DataW.trod_int underlying96 h2
      have e0 := hcell 0 (by omega)
      rw [Go.Deep.add_add] at e0
      have hr : 0 ≤ z ∧ z < 4294967296 := by simp [Lit.wf, IntKind.min, IntKind.max, IntKind.signed, IntKind.bits] at hwf; omega
      refine ⟨z.toNat, ?_, by omega⟩
      rw [show ((z.toNat : Nat) : Int) = z by omega]
      simpa using e0
    obtain ⟨q, hq⟩ := Go.Deep.choose_lt each
    refine ⟨(some a, len, cap), byR q len, hcs, sg_of_cells (length_byR ..) hl hm (fun i hi => by rw [byR_at hi]; exact (hq i hi).1), fun z hz => ?_, ?_⟩
    · obtain ⟨i, hi, rfl⟩ := List.getElem_of_mem hz
      rw [length_byR] at hi
      have := (hq i hi).2
      have e := byR_at (f := q) hi
      simp only [List.getD_eq_getElem?_getD] at e
      rw [List.getElem?_eq_getElem (by rw [length_byR]; exact hi), Option.getD_some] at e
      rw [e]; exact this
    · have := bulks.length_le ((List.range len).map D)
      simp only [Rows.uptoBulk]
      rw [length_byR]
      simp only [List.length_map, List.length_range] at this
      omega
theorem list4 {l : List Value} (h : l.length = 4) : ∃ a b c d, l = [a, b, c, d] := by
  match l, h with
  | [a, b, c, d], _ => exact ⟨a, b, c, d, rfl⟩
theorem list2' {α : Type} {l : List α} (h : l.length = 2) : ∃ a b, l = [a, b] := by
  match l, h with
  | [a, b], _ => exact ⟨a, b, rfl⟩
theorem open_rat {fuel : Nat} {c1 c2 c3 : Value} {x : DataW H × List MemPlace} (h : DataW.trod enc Tryz.prog w base spare held fuel 44 [c1, c2, c3] = some x) :
    ∃ (s : Bool) (A B : SV), c1 = .bool s ∧ c2 = sv A ∧ c3 = sv B ∧ ∃ q, Rz (Rows.uptoBulk x.1) DT w (s, sv A, sv B) q := by
  obtain ⟨xs, n, _, hxy, _, hxl, hf⟩ := DataW.trod_struct underlying44 h
  have g0 := hf 0 _ rfl
  have g1 := hf 1 _ rfl
  have ci : Tryz.prog.cellsOf 42 = 2 := by kernel_rfl
  have cs : Tryz.prog.cellsOf 40 = 1 := by kernel_rfl
  have cb : Tryz.prog.cellsOf 4 = 1 := by kernel_rfl
  obtain ⟨y0, y1, rfl⟩ := list2' hxl
  simp [ci, cs] at g0 g1
  obtain ⟨zs, n2, _, hzy, _, hzl, hz⟩ := DataW.trod_struct underlying42 g0
  have k0 := hz 0 _ rfl
  have k1 := hz 1 _ rfl
  obtain ⟨z0, z1, rfl⟩ := list2' hzl
  simp [cb, cs] at k0 k1
  obtain ⟨s, e1, _⟩ := DataW.trod_bool underlying4 k0
  obtain ⟨A, xa, e2, ha, la, ba⟩ := open_limbs k1
  obtain ⟨B, xb, e3, hb, lb, bb⟩ := open_limbs g1
  have e1' : c1 = .bool s := by simpa using e1
  refine ⟨s, A, B, e1', e2, e3, _, xa, xb, ha, la, ?_, hb, lb, ?_, rfl⟩
  · rw [hxy]
    simp only [Rows.uptoBulk, List.map_cons, List.map_nil, Rows.uptoBulkAll]
    rw [hzy]
    simp only [Rows.uptoBulk, List.map_cons, List.map_nil, Rows.uptoBulkAll]
    omega
  · rw [hxy]
    simp only [Rows.uptoBulk, List.map_cons, List.map_nil, Rows.uptoBulkAll]
    omega
theorem open_entries {fuel : Nat} {a0 : Option Addr} {len0 cap0 : Nat} {x : DataW H × List MemPlace} (h : DataW.trod enc Tryz.prog w base spare held fuel 22 [.slice a0 len0 cap0] = some x) (hk : Rows.uptoBulk x.1 ≤ 1048576) :
    ∃ es, Es 1048576 DT w (.slice a0 len0 cap0) es ∧ es.length ≤ 1048576 := by
  rcases Go.Deep.open_slice underlying22 h with ⟨hcs, _⟩ | ⟨a, len, cap, m, n, D, Pl, hcs, hb, hl, hm, hmm, rfl, hx⟩
  · injection hcs with hcs
    rw [hcs]
    exact ⟨[], Es.nil, Nat.zero_le _⟩
  · injection hcs with hcs
    injection hcs with h1 h2 h3
    subst h1 h2 h3
    have hlm : len0 ≤ m := by rw [hmm]; split <;> omega
    have hbulk : Rows.uptoBulkAll ((List.range len0).map D) ≤ 1048576 := by simp only [Rows.uptoBulk] at hk; omega
    have each : ∀ i, i < len0 → ∃ p : EC × Rat, (∀ j u, (entC p.1)[j]? = some u → w.cell? (a.add (i * 4 + j)) = some u) ∧ Rz 1048576 DT w (rcOf p.1) p.2 := fun i hi => by
      obtain ⟨cs', h1, h2⟩ := hx i (by omega)
      have ce : Tryz.prog.cellsOf 58 = 4 := by kernel_rfl
      have ci : Tryz.prog.cellsOf 3 = 1 := by kernel_rfl
      have cr : Tryz.prog.cellsOf 44 = 3 := by kernel_rfl
      rw [ce] at h1
      obtain ⟨_, hlen, hcell⟩ := World.cells?_some h1
      obtain ⟨c0, c1, c2, c3, rfl⟩ := list4 hlen
      obtain ⟨xs, n2, _, hxy, _, hxl, hf⟩ := DataW.trod_struct underlying58 h2
      have g0 := hf 0 _ rfl
      have g1 := hf 1 _ rfl
      obtain ⟨y0, y1, rfl⟩ := list2' hxl
      simp [ci, cr] at g0 g1
      obtain ⟨z, e0, _, _⟩ := DataW.trod_int underlying3 g0
      obtain ⟨s, A, B, e1, e2, e3, q, hq⟩ := open_rat g1
      have e0' : c0 = .int .i64 z := by simpa using e0
      subst e0' e1 e2 e3
      refine ⟨((z, s, A, B), q), fun j u hj => ?_, hq.wide ?_⟩
      · have hj4 : j < 4 := by
          rcases Nat.lt_or_ge j 4 with h | h
          · exact h
          · rw [List.getElem?_eq_none (by simpa using h)] at hj; cases hj
        have := hcell j hj4
        rw [Go.Deep.add_add] at this
        rw [this]; exact hj
      · have h5 := bulks.part_le (d := D i) (l := (List.range len0).map D) (List.mem_map.2 ⟨i, List.mem_range.2 hi, rfl⟩)
        have h6 : (D i) = .agg [y0.1, y1.1] := by simpa using congrArg Prod.fst hxy
        rw [h6] at h5
        simp only [Rows.uptoBulk, Rows.uptoBulkAll] at h5
        omega
    obtain ⟨q, hq⟩ := Go.Deep.choose_lt each
    have hss := Ss.of_cells (c := entC) (size := 4) (by decide) entC_len (w := w) (x := a) (xs := byR (fun i => (q i).1) len0) (length_byR ..) hl hm (fun i hi j u hj => by rw [byR_at hi] at hj; exact (hq i hi).1 j u hj)
    refine ⟨byR (fun i => ((q i).1.1, (q i).2)) len0, ⟨_, hss, by rw [length_byR, length_byR], fun k hk => ?_⟩, ?_⟩
    · rw [length_byR] at hk
      rw [byR_at hk, byR_at hk]
      exact ⟨rfl, (hq k hk).2⟩
    · have := bulks.length_le ((List.range len0).map D)
      rw [List.length_map, List.length_range] at this
      rw [length_byR]
      omega
end
end Go.Proofs.YtffgajgibddfmaaGreat
