/- VectorDense, second form: for arguments of bulk at most 1048576 the law returns true and the arguments read as before; no other condition. Part 4 of 8: Ia Mquo Rg Rh Qa Qb Qc Vgo. -/
import Derived.Test.YtelbjmhhbeijkaaGreatK3
set_option linter.unusedVariables false
set_option linter.unusedSimpArgs false
namespace Go.Proofs.YtelbjmhhbeijkaaGreat
open Go.Vg Go.RowKit _root_.Go.Proofs.Tryz
set_option linter.unusedVariables false
open Go.Vm
set_option maxHeartbeats 1000000 in
theorem i_signed {w : World} {sx : Bool} {D : Nat → TypeId → Prop} {vx : Value} {n : Nat} (hx : Sg (gN .u32) D w vx (digs n)) {zx : Int} (ex : sg sx n = zx) :
    Calls Tryz.prog 98 #[(.bool sx), vx] w fun e w' => ∃ v, e = .returned v ∧ v = .agg #[.bool (decide (zx < 0)), vx] ∧ Ext w w' := by
 have hE : Below w.heap.size w w := Below.refl _ _
 refine calls_of (n := 13) (rs := [.cell 4 42]) func98 rfl rfl rfl bL ?_
 refine wset fun F0 hF0 => ?_
 refine wsr ?_
 refine rU (h_alloc (cs := [(.bool false), (.slice none 0 0)]) ty42 rfl) ?_
 rintro _ w1 ⟨b2, rfl, hs5, hb4, he3⟩
 have ge_b2 := hE.ge hs5
 replace hE := hE.nx he3
 refine RL.nil (wsr (mV (v := (.bool sx)) (hF0 0) (mV (v := (.bool sx)) rfl ?_)))
 rcases Bool.eq_false_or_eq_true (sx) with hb6 | hb6
 ·have hb6p := hb6
  have hsx : sx = true := hb6
  refine RL.gval rfl rfl (bool_eq hb6) rfl dC (r_move_as (v := vx) (hF0 1)) ?_
  obtain ⟨A7, c8, hv9, hc10, hc11⟩ := hx.len
  refine RL.gval rfl rfl (bool_eq hb6) rfl dC (r_len uT40 hv9) ?_
  refine RL.gval rfl rfl (bool_eq hb6) rfl dC (r_gtr (k := .i64) (a := (((digs n).length : Nat) : Int)) (b := 0) rfl rfl) ?_
  refine rV (r_pick_t (v := (bd (0 < (((digs n).length : Nat) : Int)))) (bool_eq hb6) rfl) (mV (v := vx) (hF0 1) (rV (r_build (vl := [(0, (bd (0 < (((digs n).length : Nat) : Int)))), (1, vx)]) (cs := [(bd (0 < (((digs n).length : Nat) : Int))), vx]) uT42 ty42 rfl (pl42 uT42) (by obtain ⟨_, _, e0_, -, -⟩ := hx.len; simp only [e0_]; rfl)) ?_))
  refine RL.runs rfl rfl (h_stA (cs := [(bd (0 < (((digs n).length : Nat) : Int))), vx]) (o := 0) ty42 rfl rfl rfl rfl (one_cons rfl (one_cons hx.one one_nil)) hb4 bL) ?_
  rintro w12 ⟨hn13, hx14, hz15⟩
  replace hE := hE.nb hx14 ge_b2
  replace hb4 : Bk w12 b2 42 [(bd (0 < (((digs n).length : Nat) : Int))), vx] := hn13
  refine RL.nil ?_
  refine wret ?_
  refine ⟨[(.agg #[(bd (0 < (((digs n).length : Nat) : Int))), vx])], ⟨⟨_, _, [(bd (0 < (((digs n).length : Nat) : Int))), vx], rfl, ⟨_, uT42⟩, hb4.cells rfl, .inl ⟨ag42, ⟨_, _, ty42⟩, rfl⟩⟩, trivial⟩, ?_⟩
  exact ⟨agg2 (mk_t ex hsx), hE⟩
 have hb6p := hb6
 have hsx : sx = false := hb6
 refine RL.gno rfl rfl (bool_eq hb6) rfl dC ?_
 refine RL.gno rfl rfl (bool_eq hb6) rfl dC ?_
 refine RL.gno rfl rfl (bool_eq hb6) rfl dC ?_
 refine rV (r_pick_f (v := (.bool false)) (bool_eq hb6) rfl) (mV (v := vx) (hF0 1) (rV (r_build (vl := [(0, (.bool false)), (1, vx)]) (cs := [(.bool false), vx]) uT42 ty42 rfl (pl42 uT42) (by obtain ⟨_, _, e0_, -, -⟩ := hx.len; simp only [e0_]; rfl)) ?_))
 refine RL.runs rfl rfl (h_stA (cs := [(.bool false), vx]) (o := 0) ty42 rfl rfl rfl rfl (one_cons rfl (one_cons hx.one one_nil)) hb4 bL) ?_
 rintro w16 ⟨hn17, hx18, hz19⟩
 replace hE := hE.nb hx18 ge_b2
 replace hb4 : Bk w16 b2 42 [(.bool false), vx] := hn17
 refine RL.nil ?_
 refine wret ?_
 refine ⟨[(.agg #[(.bool false), vx])], ⟨⟨_, _, [(.bool false), vx], rfl, ⟨_, uT42⟩, hb4.cells rfl, .inl ⟨ag42, ⟨_, _, ty42⟩, rfl⟩⟩, trivial⟩, ?_⟩
 exact ⟨agg2 (mk_f ex hsx), hE⟩
set_option maxHeartbeats 1000000 in
theorem i_norm {w : World} {sx : Bool} {Dx : Nat → TypeId → Prop} {vx : Value} {x : List Nat} (hx : Sg (gN .u32) Dx w vx x) (lmx : Lm x) (lnx : x.length ≤ 274877906944) {zx : Int} (ex : sg sx (val x) = zx) :
    Calls Tryz.prog 91 #[(.agg #[(.bool sx), vx])] w fun e w' => ∃ v, e = .returned v ∧ (∃ vr, v = .agg #[.bool (decide (zx < 0)), vr] ∧ Sg (gN .u32) (fun b T => w.heap.size ≤ b ∧ T = 89) w' vr (digs zx.natAbs) ∧ (digs zx.natAbs).length ≤ x.length) ∧ Ext w w' := by
 have hE : Below w.heap.size w w := Below.refl _ _
 have hlzx := il_le lmx ex
 refine calls_of (n := 9) (rs := [.cell 2 42]) func91 rfl rfl rfl bL ?_
 refine wset fun F0 hF0 => ?_
 refine wsr ?_
 refine rU (h_bxA (cs := [(.bool sx), vx]) (hF0 0) rfl) ?_
 rintro _ w1 ⟨b2, rfl, hs5, hb4, he3⟩
 have ge_b2 := hE.ge hs5
 replace hE := hE.nx he3
 refine rU (h_alloc (cs := [(.bool false), (.slice none 0 0)]) ty42 rfl) ?_
 rintro _ w6 ⟨b7, rfl, hs10, hb9, he8⟩
 have lt_b2_b7 := Nat.lt_of_lt_of_eq hb4.lt hs10.symm
 have ge_b7 := hE.ge hs10
 refine RL.nil (wseq ?_)
 refine wdraw mixed fun w11 he12 => ?_
 replace hE := (hE.nx he8).nx he12
 refine ra 0 rfl (fun _ => r_fieldAddr uT42 rfl ty4 rfl) ?_
 replace hb4 := hb4.ext (Ext.trans he8 he12)
 have hc13 := hb4.cell (j := 0) (u := (.bool sx)) rfl
 refine aR 1 rfl (fun u hu => r_load uT4 ag4 rfl (cell_ext hu hc13)) ?_
 refine ra 2 rfl (fun _ => r_fieldAddr uT42 rfl ty40 rfl) ?_
 have hc14 := hb4.cell (j := 1) (u := vx) rfl
 refine aR 3 rfl (fun u hu => r_load uT40 ag40 rfl (cell_ext hu hc14)) ?_
 refine RA.all [4] kR rfl ?_
 have hm19 := Ext.trans he3 (Ext.trans he8 he12)
 replace hx := hx.tr (Sm.ext hm19)
 refine cS ent92 (n_trim hx (by assumption) oS) rfl rfl ?_ RS.nil
 rintro vr17 w15 ⟨hr18, he16⟩
 refine rm he16 ?_
 replace hr18 := hr18.fr hE
 have hlt20 : (digs (val x)).length ≤ x.length := len_le_of (by assumption)
 refine RA.all [5] kR rfl ?_
 refine cS ent98 (i_signed (n := (val x)) hr18 (show sg sx (val x) = zx from ex)) rfl rfl ?_ RS.nil
 rintro _ w21 ⟨rfl, he22⟩
 refine rm he22 ?_
 have hq23 := mk_abs (show sg sx (val x) = zx from ex)
 have hlv24 : (digs zx.natAbs).length = (digs (val x)).length := by rw [hq23]
 replace hr18 := hr18.tr (Sm.ext he22)
 rw [hq23] at hr18
 refine RA.all [6] kR rfl ?_
 have hm29 := Ext.trans he12 (Ext.trans he16 he22)
 replace hb9 := hb9.ext hm29
 refine RS.runs rfl rfl rfl (h_stA (cs := [(bd (zx < 0)), vr17]) (o := 0) ty42 rfl rfl rfl rfl (one_cons rfl (one_cons hr18.one one_nil)) hb9 bL) ?_ RS.nil
 rintro w25 ⟨hn26, hx27, hz28⟩
 refine ⟨.inr (.inl kR), ?_⟩
 replace hE := ((hE.nx he16).nx he22).nb hx27 ge_b7
 have nb_hx27 := (Nb.of hb9 (nu_cons rfl (nu_cons rfl nu_nil)))
 replace hb9 : Bk w25 b7 42 [(bd (zx < 0)), vr17] := hn26
 refine RA.done kR ?_
 refine wret ?_
 refine ⟨[(.agg #[(bd (zx < 0)), vr17])], ⟨⟨_, _, [(bd (zx < 0)), vr17], rfl, ⟨_, uT42⟩, hb9.cells rfl, .inl ⟨ag42, ⟨_, _, ty42⟩, rfl⟩⟩, trivial⟩, ?_⟩
 replace hr18 := hr18.apn hx27 nb_hx27
 exact ⟨⟨_, rfl, hr18, oM⟩, hE⟩
set_option maxHeartbeats 1000000 in
theorem i_add {w : World} {sx : Bool} {Dx : Nat → TypeId → Prop} {vx : Value} {x : List Nat} (hx : Sg (gN .u32) Dx w vx x) (lmx : Lm x) (lnx : x.length ≤ 274877906944) {zx : Int} (ex : sg sx (val x) = zx) {sy : Bool} {Dy : Nat → TypeId → Prop} {vy : Value} {y : List Nat} (hy : Sg (gN .u32) Dy w vy y) (lmy : Lm y) (lny : y.length ≤ 274877906944) {zy : Int} (ey : sg sy (val y) = zy) :
    Calls Tryz.prog 68 #[(.agg #[(.bool sx), vx]), (.agg #[(.bool sy), vy])] w fun e w' => ∃ v, e = .returned v ∧ (∃ vr, v = .agg #[.bool (decide ((zx + zy) < 0)), vr] ∧ Sg (gN .u32) (fun b T => w.heap.size ≤ b ∧ T = 89) w' vr (digs (zx + zy).natAbs) ∧ (digs (zx + zy).natAbs).length ≤ max x.length y.length + 1) ∧ Ext w w' := by
 have hE : Below w.heap.size w w := Below.refl _ _
 have hlzx := il_le lmx ex
 have hlzy := il_le lmy ey
 refine calls_of (n := 47) (rs := [.cell 4 42]) func68 rfl rfl rfl bL ?_
 refine wset fun F0 hF0 => ?_
 refine wsr ?_
 refine rU (h_bxA (cs := [(.bool sx), vx]) (hF0 0) rfl) ?_
 rintro _ w1 ⟨b2, rfl, hs5, hb4, he3⟩
 have ge_b2 := hE.ge hs5
 replace hE := hE.nx he3
 refine rU (h_bxA (cs := [(.bool sy), vy]) (hF0 1) rfl) ?_
 rintro _ w6 ⟨b7, rfl, hs10, hb9, he8⟩
 have lt_b2_b7 := Nat.lt_of_lt_of_eq hb4.lt hs10.symm
 have ge_b7 := hE.ge hs10
 replace hE := hE.nx he8
 refine rU (h_alloc (cs := [(.bool false), (.slice none 0 0)]) ty42 rfl) ?_
 rintro _ w11 ⟨b12, rfl, hs15, hb14, he13⟩
 have lt_b7_b12 := Nat.lt_of_lt_of_eq hb9.lt hs15.symm
 have ge_b12 := hE.ge hs15
 replace hE := hE.nx he13
 refine RL.nil (wseq (wsr (rV (r_fieldAddr uT42 rfl ty4 rfl) ?_)))
 replace hb4 := hb4.ext (Ext.trans he8 he13)
 have hc16 := hb4.cell (j := 0) (u := (.bool sx)) rfl
 refine rV (r_load uT4 ag4 rfl hc16) (rV (r_fieldAddr uT42 rfl ty4 rfl) ?_)
 replace hb9 := hb9.ext he13
 have hc17 := hb9.cell (j := 0) (u := (.bool sy)) rfl
 refine rV (r_load uT4 ag4 rfl hc17) (rV (r_eqlb uT4 rfl rfl) (RL.nil ?_))
 refine wcond (b := sx == sy) rfl (fun hb18 => ?_) (fun hb18 => ?_)
 ·have hb18p := hb18
  have hs : sx = sy := by simpa using hb18
  refine wseq ?_
  refine wdraw mixed fun w19 he20 => ?_
  replace hE := hE.nx he20
  refine ra 0 rfl (fun _ => r_fieldAddr uT42 rfl ty4 rfl) ?_
  replace hb4 := hb4.ext he20
  have hc21 := hb4.cell (j := 0) (u := (.bool sx)) rfl
  refine aR 1 rfl (fun u hu => r_load uT4 ag4 rfl (cell_ext hu hc21)) ?_
  refine ra 2 rfl (fun _ => r_fieldAddr uT42 rfl ty40 rfl) ?_
  have hc22 := hb4.cell (j := 1) (u := vx) rfl
  refine aR 3 rfl (fun u hu => r_load uT40 ag40 rfl (cell_ext hu hc22)) ?_
  refine ra 4 rfl (fun _ => r_fieldAddr uT42 rfl ty40 rfl) ?_
  replace hb9 := hb9.ext he20
  have hc23 := hb9.cell (j := 1) (u := vy) rfl
  refine aR 5 rfl (fun u hu => r_load uT40 ag40 rfl (cell_ext hu hc23)) ?_
  refine RA.all [6] kR rfl ?_
  have hm28 := Ext.trans he3 (Ext.trans he8 (Ext.trans he13 he20))
  replace hx := hx.tr (Sm.ext hm28)
  replace hy := hy.tr (Sm.ext hm28)
  refine cS ent101 (n_add hx (by assumption) oS hy (by assumption) oS) rfl rfl ?_ RS.nil
  rintro vr26 w24 ⟨hr27, he25⟩
  refine rm he25 ?_
  replace hr27 := hr27.fr hE
  have hlv29 := dl_val (x := x) (by assumption)
  have hlv30 := dl_val (x := y) (by assumption)
  have hlv31 := dl_add (val x) (val y)
  refine RA.all [7] kR rfl ?_
  refine cS ent98 (i_signed (n := ((val x) + (val y))) hr27 (show sg sx ((val x) + (val y)) = zx + zy from (by rw [sg_add, ex, hs, ey]))) rfl rfl ?_ RS.nil
  rintro _ w32 ⟨rfl, he33⟩
  refine rm he33 ?_
  have hq34 := mk_abs (show sg sx ((val x) + (val y)) = zx + zy from (by rw [sg_add, ex, hs, ey]))
  have hlv35 : (digs (zx + zy).natAbs).length = (digs ((val x) + (val y))).length := by rw [hq34]
  replace hr27 := hr27.tr (Sm.ext he33)
  rw [hq34] at hr27
  refine RA.all [8] kR rfl ?_
  have hm40 := Ext.trans he20 (Ext.trans he25 he33)
  replace hb14 := hb14.ext hm40
  refine RS.runs rfl rfl rfl (h_stA (cs := [(bd ((zx + zy) < 0)), vr26]) (o := 0) ty42 rfl rfl rfl rfl (one_cons rfl (one_cons hr27.one one_nil)) hb14 bL) ?_ RS.nil
  rintro w36 ⟨hn37, hx38, hz39⟩
  refine ⟨.inr (.inl kR), ?_⟩
  replace hE := ((hE.nx he25).nx he33).nb hx38 ge_b12
  have nb_hx38 := (Nb.of hb14 (nu_cons rfl (nu_cons rfl nu_nil)))
  replace hb14 : Bk w36 b12 42 [(bd ((zx + zy) < 0)), vr26] := hn37
  refine RA.done kR ?_
  refine wret ?_
  refine ⟨[(.agg #[(bd ((zx + zy) < 0)), vr26])], ⟨⟨_, _, [(bd ((zx + zy) < 0)), vr26], rfl, ⟨_, uT42⟩, hb14.cells rfl, .inl ⟨ag42, ⟨_, _, ty42⟩, rfl⟩⟩, trivial⟩, ?_⟩
  replace hr27 := hr27.apn hx38 nb_hx38
  exact ⟨⟨_, rfl, hr27, oM⟩, hE⟩
 have hb18p := hb18
 have hs : sx ≠ sy := by simpa using hb18
 refine wskip ?_
 refine wseq (wsr (rV (r_fieldAddr uT42 rfl ty40 rfl) ?_))
 have hc41 := hb4.cell (j := 1) (u := vx) rfl
 refine rV (r_load uT40 ag40 rfl hc41) (rV (r_fieldAddr uT42 rfl ty40 rfl) ?_)
 have hc42 := hb9.cell (j := 1) (u := vy) rfl
 refine rV (r_load uT40 ag40 rfl hc42) ?_
 have hm49 := Ext.trans he3 (Ext.trans he8 he13)
 replace hx := hx.tr (Sm.ext hm49)
 replace hy := hy.tr (Sm.ext hm49)
 refine cL ent102 (n_sub hx (by assumption) oS hy (by assumption) oS) rfl ?_
 rintro vq47 w43 ⟨⟨vr45, hq48, hr46⟩, he44⟩
 have hlv50 := dl_val (x := x) (by assumption)
 have hlv51 := dl_val (x := y) (by assumption)
 have hlv52 := dl_sub (val x) (val y)
 subst hq48
 replace hr46 := hr46.fr hE
 replace hE := hE.nx he44
 refine mV (v := (.tuple #[vr45, (bd ((val y) ≤ (val x)))])) rfl (rV (r_extract (v := vr45) rfl rfl) (rV (r_extract (v := (bd ((val y) ≤ (val x)))) rfl rfl) (aS (v := vr45) rfl (aS (v := (bd ((val y) ≤ (val x)))) rfl (RL.nil (wsr (mV (v := (bd ((val y) ≤ (val x)))) rfl (RL.nil ?_))))))))
 refine wcD (p := (val y) ≤ (val x)) rfl (fun hb53 hb53p => ?_) (fun hb53 hb53p => ?_)
 ·have hle : val y ≤ val x := hb53p
  refine wsr (rV (r_fieldAddr uT42 rfl ty4 rfl) ?_)
  replace hb4 := hb4.ext he44
  have hc54 := hb4.cell (j := 0) (u := (.bool sx)) rfl
  refine rV (r_load uT4 ag4 rfl hc54) (mV (v := vr45) rfl ?_)
  refine cL ent98 (i_signed (n := ((val x) - (val y))) hr46 (show sg sx ((val x) - (val y)) = zx + zy from (by exact isub_a ex ey hs hle))) rfl ?_
  rintro _ w55 ⟨rfl, he56⟩
  have hq57 := mk_abs (show sg sx ((val x) - (val y)) = zx + zy from (by exact isub_a ex ey hs hle))
  have hlv58 : (digs (zx + zy).natAbs).length = (digs ((val x) - (val y))).length := by rw [hq57]
  replace hr46 := hr46.tr (Sm.ext he56)
  rw [hq57] at hr46
  replace hb14 := hb14.ext (Ext.trans he44 he56)
  refine RL.runs rfl rfl (h_stA (cs := [(bd ((zx + zy) < 0)), vr45]) (o := 0) ty42 rfl rfl rfl rfl (one_cons rfl (one_cons hr46.one one_nil)) hb14 bL) ?_
  rintro w59 ⟨hn60, hx61, hz62⟩
  replace hE := (hE.nx he56).nb hx61 ge_b12
  have nb_hx61 := (Nb.of hb14 (nu_cons rfl (nu_cons rfl nu_nil)))
  replace hb14 : Bk w59 b12 42 [(bd ((zx + zy) < 0)), vr45] := hn60
  refine RL.nil ?_
  refine wret ?_
  refine ⟨[(.agg #[(bd ((zx + zy) < 0)), vr45])], ⟨⟨_, _, [(bd ((zx + zy) < 0)), vr45], rfl, ⟨_, uT42⟩, hb14.cells rfl, .inl ⟨ag42, ⟨_, _, ty42⟩, rfl⟩⟩, trivial⟩, ?_⟩
  replace hr46 := hr46.apn hx61 nb_hx61
  exact ⟨⟨_, rfl, hr46, oM⟩, hE⟩
 have hle : ¬ val y ≤ val x := hb53p
 refine wskip ?_
 refine wsr (rV (r_fieldAddr uT42 rfl ty40 rfl) ?_)
 replace hb9 := hb9.ext he44
 have hc63 := hb9.cell (j := 1) (u := vy) rfl
 refine rV (r_load uT40 ag40 rfl hc63) (rV (r_fieldAddr uT42 rfl ty40 rfl) ?_)
 replace hb4 := hb4.ext he44
 have hc64 := hb4.cell (j := 1) (u := vx) rfl
 refine rV (r_load uT40 ag40 rfl hc64) ?_
 replace hy := hy.tr (Sm.ext he44)
 replace hx := hx.tr (Sm.ext he44)
 refine cL ent102 (n_sub hy (by assumption) oS hx (by assumption) oS) rfl ?_
 rintro vq69 w65 ⟨⟨vr67, hq70, hr68⟩, he66⟩
 have hlv71 := dl_val (x := y) (by assumption)
 have hlv72 := dl_val (x := x) (by assumption)
 have hlv73 := dl_sub (val y) (val x)
 subst hq70
 replace hr68 := hr68.fr hE
 refine mV (v := (.tuple #[vr67, (bd ((val x) ≤ (val y)))])) rfl (rV (r_extract (v := vr67) rfl rfl) (rV (r_extract (v := (bd ((val x) ≤ (val y)))) rfl rfl) (aS (v := vr67) rfl (aS (v := (bd ((val x) ≤ (val y)))) rfl (RL.nil (wsr (rV (r_fieldAddr uT42 rfl ty4 rfl) ?_)))))))
 replace hb9 := hb9.ext he66
 have hc74 := hb9.cell (j := 0) (u := (.bool sy)) rfl
 refine rV (r_load uT4 ag4 rfl hc74) (mV (v := vr67) rfl ?_)
 refine cL ent98 (i_signed (n := ((val y) - (val x))) hr68 (show sg sy ((val y) - (val x)) = zx + zy from (by exact isub_b ex ey hs hle))) rfl ?_
 rintro _ w75 ⟨rfl, he76⟩
 have hq77 := mk_abs (show sg sy ((val y) - (val x)) = zx + zy from (by exact isub_b ex ey hs hle))
 have hlv78 : (digs (zx + zy).natAbs).length = (digs ((val y) - (val x))).length := by rw [hq77]
 replace hr68 := hr68.tr (Sm.ext he76)
 rw [hq77] at hr68
 have hm83 := Ext.trans he44 (Ext.trans he66 he76)
 replace hb14 := hb14.ext hm83
 refine RL.runs rfl rfl (h_stA (cs := [(bd ((zx + zy) < 0)), vr67]) (o := 0) ty42 rfl rfl rfl rfl (one_cons rfl (one_cons hr68.one one_nil)) hb14 bL) ?_
 rintro w79 ⟨hn80, hx81, hz82⟩
 replace hE := ((hE.nx he66).nx he76).nb hx81 ge_b12
 have nb_hx81 := (Nb.of hb14 (nu_cons rfl (nu_cons rfl nu_nil)))
 replace hb14 : Bk w79 b12 42 [(bd ((zx + zy) < 0)), vr67] := hn80
 refine RL.nil ?_
 refine wret ?_
 refine ⟨[(.agg #[(bd ((zx + zy) < 0)), vr67])], ⟨⟨_, _, [(bd ((zx + zy) < 0)), vr67], rfl, ⟨_, uT42⟩, hb14.cells rfl, .inl ⟨ag42, ⟨_, _, ty42⟩, rfl⟩⟩, trivial⟩, ?_⟩
 replace hr68 := hr68.apn hx81 nb_hx81
 exact ⟨⟨_, rfl, hr68, oM⟩, hE⟩
set_option maxHeartbeats 1000000 in
theorem i_mul {w : World} {sx : Bool} {Dx : Nat → TypeId → Prop} {vx : Value} {x : List Nat} (hx : Sg (gN .u32) Dx w vx x) (lmx : Lm x) (lnx : x.length ≤ 274877906944) {zx : Int} (ex : sg sx (val x) = zx) {sy : Bool} {Dy : Nat → TypeId → Prop} {vy : Value} {y : List Nat} (hy : Sg (gN .u32) Dy w vy y) (lmy : Lm y) (lny : y.length ≤ 274877906944) {zy : Int} (ey : sg sy (val y) = zy) :
    Calls Tryz.prog 69 #[(.agg #[(.bool sx), vx]), (.agg #[(.bool sy), vy])] w fun e w' => ∃ v, e = .returned v ∧ (∃ vr, v = .agg #[.bool (decide ((zx * zy) < 0)), vr] ∧ Sg (gN .u32) (fun b T => w.heap.size ≤ b ∧ T = 89) w' vr (digs (zx * zy).natAbs) ∧ (digs (zx * zy).natAbs).length ≤ x.length + y.length) ∧ Ext w w' := by
 have hE : Below w.heap.size w w := Below.refl _ _
 have hlzx := il_le lmx ex
 have hlzy := il_le lmy ey
 refine calls_of (n := 16) (rs := [.cell 4 42]) func69 rfl rfl rfl bL ?_
 refine wset fun F0 hF0 => ?_
 refine wsr ?_
 refine rU (h_bxA (cs := [(.bool sx), vx]) (hF0 0) rfl) ?_
 rintro _ w1 ⟨b2, rfl, hs5, hb4, he3⟩
 have ge_b2 := hE.ge hs5
 replace hE := hE.nx he3
 refine rU (h_bxA (cs := [(.bool sy), vy]) (hF0 1) rfl) ?_
 rintro _ w6 ⟨b7, rfl, hs10, hb9, he8⟩
 have lt_b2_b7 := Nat.lt_of_lt_of_eq hb4.lt hs10.symm
 have ge_b7 := hE.ge hs10
 replace hE := hE.nx he8
 refine rU (h_alloc (cs := [(.bool false), (.slice none 0 0)]) ty42 rfl) ?_
 rintro _ w11 ⟨b12, rfl, hs15, hb14, he13⟩
 have lt_b7_b12 := Nat.lt_of_lt_of_eq hb9.lt hs15.symm
 have ge_b12 := hE.ge hs15
 refine RL.nil (wseq ?_)
 refine wdraw mixed fun w16 he17 => ?_
 replace hE := (hE.nx he13).nx he17
 refine ra 0 rfl (fun _ => r_fieldAddr uT42 rfl ty4 rfl) ?_
 have hm19 := Ext.trans he8 (Ext.trans he13 he17)
 replace hb4 := hb4.ext hm19
 have hc18 := hb4.cell (j := 0) (u := (.bool sx)) rfl
 refine aR 1 rfl (fun u hu => r_load uT4 ag4 rfl (cell_ext hu hc18)) ?_
 refine ra 2 rfl (fun _ => r_fieldAddr uT42 rfl ty4 rfl) ?_
 replace hb9 := hb9.ext (Ext.trans he13 he17)
 have hc20 := hb9.cell (j := 0) (u := (.bool sy)) rfl
 refine aR 3 rfl (fun u hu => r_load uT4 ag4 rfl (cell_ext hu hc20)) ?_
 refine ra 4 rfl (fun _ => r_neqb uT4 rfl rfl) ?_
 refine ra 5 rfl (fun _ => r_fieldAddr uT42 rfl ty40 rfl) ?_
 have hc21 := hb4.cell (j := 1) (u := vx) rfl
 refine aR 6 rfl (fun u hu => r_load uT40 ag40 rfl (cell_ext hu hc21)) ?_
 refine ra 7 rfl (fun _ => r_fieldAddr uT42 rfl ty40 rfl) ?_
 have hc22 := hb9.cell (j := 1) (u := vy) rfl
 refine aR 8 rfl (fun u hu => r_load uT40 ag40 rfl (cell_ext hu hc22)) ?_
 refine RA.all [9] kR rfl ?_
 have hm27 := Ext.trans he3 (Ext.trans he8 (Ext.trans he13 he17))
 replace hx := hx.tr (Sm.ext hm27)
 replace hy := hy.tr (Sm.ext hm27)
 refine cS ent70 (n_mul hx (by assumption) oS hy (by assumption) oS) rfl rfl ?_ RS.nil
 rintro vr25 w23 ⟨hr26, he24⟩
 refine rm he24 ?_
 replace hr26 := hr26.fr hE
 have hlv28 := dl_val (x := x) (by assumption)
 have hlv29 := dl_val (x := y) (by assumption)
 have hlv30 := dl_mul (val x) (val y)
 refine RA.all [10] kR rfl ?_
 refine cS ent98 (i_signed (n := ((val x) * (val y))) hr26 (show sg (sx != sy) ((val x) * (val y)) = zx * zy from (by rw [sg_mul, ex, ey]))) rfl rfl ?_ RS.nil
 rintro _ w31 ⟨rfl, he32⟩
 refine rm he32 ?_
 have hq33 := mk_abs (show sg (sx != sy) ((val x) * (val y)) = zx * zy from (by rw [sg_mul, ex, ey]))
 have hlv34 : (digs (zx * zy).natAbs).length = (digs ((val x) * (val y))).length := by rw [hq33]
 replace hr26 := hr26.tr (Sm.ext he32)
 rw [hq33] at hr26
 refine RA.all [11] kR rfl ?_
 have hm39 := Ext.trans he17 (Ext.trans he24 he32)
 replace hb14 := hb14.ext hm39
 refine RS.runs rfl rfl rfl (h_stA (cs := [(bd ((zx * zy) < 0)), vr25]) (o := 0) ty42 rfl rfl rfl rfl (one_cons rfl (one_cons hr26.one one_nil)) hb14 bL) ?_ RS.nil
 rintro w35 ⟨hn36, hx37, hz38⟩
 refine ⟨.inr (.inl kR), ?_⟩
 replace hE := ((hE.nx he24).nx he32).nb hx37 ge_b12
 have nb_hx37 := (Nb.of hb14 (nu_cons rfl (nu_cons rfl nu_nil)))
 replace hb14 : Bk w35 b12 42 [(bd ((zx * zy) < 0)), vr25] := hn36
 refine RA.done kR ?_
 refine wret ?_
 refine ⟨[(.agg #[(bd ((zx * zy) < 0)), vr25])], ⟨⟨_, _, [(bd ((zx * zy) < 0)), vr25], rfl, ⟨_, uT42⟩, hb14.cells rfl, .inl ⟨ag42, ⟨_, _, ty42⟩, rfl⟩⟩, trivial⟩, ?_⟩
 replace hr26 := hr26.apn hx37 nb_hx37
 exact ⟨⟨_, rfl, hr26, oM⟩, hE⟩
set_option maxHeartbeats 1000000 in
theorem i_from {w : World} {k : Int} (hk : -9223372036854775808 ≤ k ∧ k ≤ 9223372036854775807) :
    Calls Tryz.prog 64 #[(iv k)] w fun e w' => ∃ v, e = .returned v ∧ (∃ vr, v = .agg #[.bool (decide (k < 0)), vr] ∧ Sg (gN .u32) (fun b T => w.heap.size ≤ b ∧ T = 89) w' vr (digs k.natAbs) ∧ (digs k.natAbs).length ≤ 2) ∧ Ext w w' := by
 have hE : Below w.heap.size w w := Below.refl _ _
 refine calls_of (n := 14) (rs := [.cell 2 42]) func64 rfl rfl rfl bL ?_
 refine wset fun F0 hF0 => ?_
 refine wsr ?_
 refine rU (h_alloc (cs := [(.bool false), (.slice none 0 0)]) ty42 rfl) ?_
 rintro _ w1 ⟨b2, rfl, hs5, hb4, he3⟩
 have ge_b2 := hE.ge hs5
 replace hE := hE.nx he3
 refine RL.nil (wseq (wsr (mV (v := (iv k)) (hF0 0) (rV (r_lss (k := .i64) (a := k) (b := 0) rfl rfl) (RL.nil ?_)))))
 refine wcD (p := k < 0) rfl (fun hb6 hb6p => ?_) (fun hb6 hb6p => ?_)
 ·refine wsr ?_
  refine mV (v := (iv k)) (hF0 0) (rV (r_conv (k := .u64) (a := k) (c := k + 18446744073709551616) uT3 uT73 rfl (by rw [wu64m]; omega)) (rV (r_neg (k := .u64) (a := k + 18446744073709551616) (c := (((-k).toNat : Nat) : Int)) rfl (by rw [wu64m]; omega)) ?_))
  refine cL ent90 (n_from oM) rfl ?_
  rintro vr9 w7 ⟨hr10, he8⟩
  replace hr10 := hr10.fr hE
  have hlv11 := dl_u64 (n := (-k).toNat) oM
  refine cL ent98 (i_signed (n := ((-k).toNat)) hr10 (show sg true ((-k).toNat) = k from (by rw [sg_t]; omega))) rfl ?_
  rintro _ w12 ⟨rfl, he13⟩
  have hq14 := mk_abs (show sg true ((-k).toNat) = k from (by rw [sg_t]; omega))
  have hlv15 : (digs k.natAbs).length = (digs ((-k).toNat)).length := by rw [hq14]
  replace hr10 := hr10.tr (Sm.ext he13)
  rw [hq14] at hr10
  replace hb4 := hb4.ext (Ext.trans he8 he13)
  refine RL.runs rfl rfl (h_stA (cs := [(bd (k < 0)), vr9]) (o := 0) ty42 rfl rfl rfl rfl (one_cons rfl (one_cons hr10.one one_nil)) hb4 bL) ?_
  rintro w16 ⟨hn17, hx18, hz19⟩
  replace hE := ((hE.nx he8).nx he13).nb hx18 ge_b2
  have nb_hx18 := (Nb.of hb4 (nu_cons rfl (nu_cons rfl nu_nil)))
  replace hb4 : Bk w16 b2 42 [(bd (k < 0)), vr9] := hn17
  refine RL.nil ?_
  refine wret ?_
  refine ⟨[(.agg #[(bd (k < 0)), vr9])], ⟨⟨_, _, [(bd (k < 0)), vr9], rfl, ⟨_, uT42⟩, hb4.cells rfl, .inl ⟨ag42, ⟨_, _, ty42⟩, rfl⟩⟩, trivial⟩, ?_⟩
  replace hr10 := hr10.apn hx18 nb_hx18
  exact ⟨⟨_, rfl, hr10, oM⟩, hE⟩
 refine wskip ?_
 refine wsr (mV (v := (iv k)) (hF0 0) (rV (r_conv (k := .u64) (a := k) (c := ((k.toNat : Nat) : Int)) uT3 uT73 rfl ((wu64 oM).trans oM)) ?_))
 refine cL ent90 (n_from oM) rfl ?_
 rintro vr22 w20 ⟨hr23, he21⟩
 replace hr23 := hr23.fr hE
 have hlv24 := dl_u64 (n := k.toNat) oM
 refine cL ent98 (i_signed (n := k.toNat) hr23 (show sg false k.toNat = k from (by rw [sg_f]; omega))) rfl ?_
 rintro _ w25 ⟨rfl, he26⟩
 have hq27 := mk_abs (show sg false k.toNat = k from (by rw [sg_f]; omega))
 have hlv28 : (digs k.natAbs).length = (digs k.toNat).length := by rw [hq27]
 replace hr23 := hr23.tr (Sm.ext he26)
 rw [hq27] at hr23
 replace hb4 := hb4.ext (Ext.trans he21 he26)
 refine RL.runs rfl rfl (h_stA (cs := [(bd (k < 0)), vr22]) (o := 0) ty42 rfl rfl rfl rfl (one_cons rfl (one_cons hr23.one one_nil)) hb4 bL) ?_
 rintro w29 ⟨hn30, hx31, hz32⟩
 replace hE := ((hE.nx he21).nx he26).nb hx31 ge_b2
 have nb_hx31 := (Nb.of hb4 (nu_cons rfl (nu_cons rfl nu_nil)))
 replace hb4 : Bk w29 b2 42 [(bd (k < 0)), vr22] := hn30
 refine RL.nil ?_
 refine wret ?_
 refine ⟨[(.agg #[(bd (k < 0)), vr22])], ⟨⟨_, _, [(bd (k < 0)), vr22], rfl, ⟨_, uT42⟩, hb4.cells rfl, .inl ⟨ag42, ⟨_, _, ty42⟩, rfl⟩⟩, trivial⟩, ?_⟩
 replace hr23 := hr23.apn hx31 nb_hx31
 exact ⟨⟨_, rfl, hr23, oM⟩, hE⟩
set_option maxHeartbeats 1000000 in
theorem i_sign {w : World} {sx : Bool} {Dx : Nat → TypeId → Prop} {vx : Value} {x : List Nat} (hx : Sg (gN .u32) Dx w vx x) (lmx : Lm x) (lnx : x.length ≤ 274877906944) {zx : Int} (ex : sg sx (val x) = zx) :
    Calls Tryz.prog 58 #[(.agg #[(.bool sx), vx])] w fun e w' => ∃ v, e = .returned v ∧ v = .int .i64 (Int.sign zx) ∧ Ext w w' := by
 have hE : Below w.heap.size w w := Below.refl _ _
 have hlzx := il_le lmx ex
 refine calls_of (n := 11) (rs := [.tmp 2]) func58 rfl rfl rfl bL ?_
 refine wset fun F0 hF0 => ?_
 refine wsr ?_
 refine rU (h_bxA (cs := [(.bool sx), vx]) (hF0 0) rfl) ?_
 rintro _ w1 ⟨b2, rfl, hs5, hb4, he3⟩
 have ge_b2 := hE.ge hs5
 refine aS (v := (iv 0)) rfl (RL.nil (wseq ?_))
 refine wblock ?_
 refine wsr (rV (r_fieldAddr uT42 rfl ty40 rfl) ?_)
 have hc6 := hb4.cell (j := 1) (u := vx) rfl
 refine rV (r_load uT40 ag40 rfl hc6) ?_
 replace hx := hx.tr (Sm.ext he3)
 refine cL ent67 (n_compare hx (by assumption) oS (Sg.nil (g := gN .u32) (D := (fun b T => w.heap.size ≤ b ∧ T = 89))) Lm.nil oS) rfl ?_
 rintro vq10 w7 ⟨hq9, he8⟩
 subst hq9
 replace hE := (hE.nx he3).nx he8
 refine rV (r_eql (k := .i64) (a := cmpI (((val x) : Nat) : Int) (((val ([])) : Nat) : Int)) (b := 0) rfl rfl) (aS (v := (bd ((cmpI (((val x) : Nat) : Int) (((val ([])) : Nat) : Int)) = 0))) rfl (RL.nil ?_))
 refine wcD (p := (cmpI (((val x) : Nat) : Int) (((val ([])) : Nat) : Int)) = 0) rfl (fun hb11 hb11p => ?_) (fun hb11 hb11p => ?_)
 ·have hz : val x = 0 := by have h9 := cmpI_zero.1 hb11p; have h8 : val [] = 0 := rfl; omega
  refine wsr (aS (v := (iv 0)) rfl (RL.nil ?_))
  refine wret ?_
  refine ⟨[(iv 0)], ⟨rfl, trivial⟩, ?_⟩
  exact ⟨int_eq (Int.sign_eq_zero_iff_zero.2 (by rw [← ex, hz, sg_zero])).symm, hE⟩
 have hz : val x ≠ 0 := fun h => hb11p (cmpI_zero.2 (by rw [h]; rfl))
 refine wsr (rV (r_fieldAddr uT42 rfl ty4 rfl) ?_)
 replace hb4 := hb4.ext he8
 have hc12 := hb4.cell (j := 0) (u := (.bool sx)) rfl
 refine rV (r_load uT4 ag4 rfl hc12) (aS (v := (.bool sx)) rfl (RL.nil ?_))
 refine wcond (b := sx) rfl (fun hb13 => ?_) (fun hb13 => ?_)
 ·have hb13p := hb13
  have hsx : sx = true := hb13
  refine wsr (aS (v := (iv (-1))) rfl (RL.nil ?_))
  refine wret ?_
  refine ⟨[(iv (-1))], ⟨rfl, trivial⟩, ?_⟩
  exact ⟨int_eq (Int.sign_eq_neg_one_of_neg (by rw [← ex]; exact sg_lt.2 ⟨hsx, by omega⟩)).symm, hE⟩
 have hb13p := hb13
 have hsx : sx = false := hb13
 refine wskip ?_
 refine wsr (aS (v := (iv 1)) rfl (RL.nil ?_))
 refine wret ?_
 refine ⟨[(iv 1)], ⟨rfl, trivial⟩, ?_⟩
 exact ⟨int_eq (Int.sign_eq_one_of_pos (by rw [← ex, hsx, sg_f]; omega)).symm, hE⟩
end Go.Proofs.YtelbjmhhbeijkaaGreat
namespace Go.Vm
theorem low_law {z : Int} {d : Nat} (hd : d ≠ 0) : (Rat.divInt z (d : Int)).num.natAbs = z.natAbs / Nat.gcd z.natAbs d ∧ (Rat.divInt z (d : Int)).den = d / Nat.gcd z.natAbs d ∧ ((Rat.divInt z (d : Int)).num < 0 ↔ z < 0) := by
  have hz : (d : Int) ≠ 0 := by omega
  have hlaw := (make_law (zx := z) hz).2
  have hg : Int.gcd z (d : Int) = Nat.gcd z.natAbs d := rfl
  rw [hg] at hlaw
  have hgp : 0 < Nat.gcd z.natAbs d := Nat.gcd_pos_of_pos_right _ oM
  have hn : ¬ ((d : Int) / ((Nat.gcd z.natAbs d : Nat) : Int) < 0) := by
    have := Int.ediv_nonneg (a := (d : Int)) (b := ((Nat.gcd z.natAbs d : Nat) : Int)) oM oM
    omega
  obtain ⟨h1, h2⟩ := hlaw hn
  have hdv : ((Nat.gcd z.natAbs d : Nat) : Int) ∣ z := Int.ofNat_dvd_left.2 (Nat.gcd_dvd_left _ _)
  refine ⟨?_, ?_, ?_⟩
  · rw [h1, Int.natAbs_ediv_of_dvd hdv, Int.natAbs_natCast]
  · rw [h2, ← Int.natCast_ediv, Int.natAbs_natCast]
  rw [h1]
  obtain ⟨k, hk⟩ := hdv
  generalize hG : ((Nat.gcd z.natAbs d : Nat) : Int) = G at *
  have hGp : 0 < G := by omega
  rw [hk, Int.mul_ediv_cancel_left _ oM]
  constructor
  · intro h; exact Int.mul_neg_of_pos_of_neg hGp h
  intro h
  rcases Int.lt_or_le k 0 with h3 | h3
  · exact h3
  have := Int.mul_nonneg (Int.le_of_lt hGp) h3; omega
theorem rat_sign {s : Bool} {n d : Nat} {q : Rat} (hd : d ≠ 0) (h : ratOf s n d = q) : Int.sign (sg s n) = Int.sign q.num := by
  have hl := low_law (z := sg s n) hd
  unfold ratOf at h
  rw [h] at hl
  rcases Int.lt_trichotomy (sg s n) 0 with h1 | h1 | h1
  · rw [Int.sign_eq_neg_one_of_neg h1, Int.sign_eq_neg_one_of_neg (hl.2.2.2 h1)]
  · have h2 : q.num.natAbs = 0 := by rw [hl.1, h1]; simp
    rw [h1, show q.num = 0 by omega]
  have h3 : ¬ q.num < 0 := fun h4 => by have := hl.2.2.1 h4; omega
  have h4 : q.num.natAbs ≠ 0 := by
    rw [hl.1]
    have hdv : Nat.gcd (sg s n).natAbs d ∣ (sg s n).natAbs := Nat.gcd_dvd_left _ _
    have hp := Nat.div_pos (Nat.le_of_dvd oM hdv) (Nat.gcd_pos_of_pos_right (sg s n).natAbs (by omega : 0 < d))
    omega
  rw [Int.sign_eq_one_of_pos h1, Int.sign_eq_one_of_pos oM]
theorem ratOf_den0 (b : Bool) (n : Nat) : ratOf b n 0 = 0 := by unfold ratOf; exact Rat.divInt_zero _
theorem mul31 {a b : Int} (ha : -2147483648 < a ∧ a < 2147483648) (hb : -2147483648 < b ∧ b < 2147483648) : -4611686018427387904 < a * b ∧ a * b < 4611686018427387904 := by
  have h : (a * b).natAbs ≤ 2147483647 * 2147483647 := by rw [Int.natAbs_mul]; exact Nat.mul_le_mul oM oM
  omega
theorem radd_small {a b c d : Int} {p q : Rat} (hc : 0 < c) (hd : 0 < d) (h1 : Rat.divInt a c = p) (h2 : Rat.divInt b d = q) : Rat.divInt (a * d + b * c) (c * d) = p + q := by
  rw [← h1, ← h2, Rat.divInt_add_divInt _ _ oM oM]
theorem rmul_small {a b c d : Int} {p q : Rat} (h1 : Rat.divInt a c = p) (h2 : Rat.divInt b d = q) : Rat.divInt (a * b) (c * d) = p * q := by
  rw [← h1, ← h2, Rat.divInt_mul_divInt]
theorem radd_same {a b c : Int} {p q : Rat} (hc : c ≠ 0) (h1 : Rat.divInt a c = p) (h2 : Rat.divInt b c = q) : Rat.divInt (a + b) c = p + q := by
  rw [← h1, ← h2, Rat.divInt_add_divInt _ _ hc hc, ← Int.add_mul, Rat.divInt_mul_right hc]
theorem radd_len (p q : Rat) : (digs (p + q).num.natAbs).length ≤ max ((digs p.num.natAbs).length + (digs q.den).length) ((digs q.num.natAbs).length + (digs p.den).length) + 1 ∧ (digs (p + q).den).length ≤ (digs p.den).length + (digs q.den).length := by
  rw [← radd_law p q]
  have h1 := rl_num (a := p.num * (q.den : Int) + q.num * (p.den : Int)) (b := (p.den : Int) * (q.den : Int))
  have h2 := rl_den (a := p.num * (q.den : Int) + q.num * (p.den : Int)) (b := (p.den : Int) * (q.den : Int))
  have h3 := il_add (p.num * (q.den : Int)) (q.num * (p.den : Int))
  have h4 := il_mul p.num (q.den : Int)
  have h5 := il_mul q.num (p.den : Int)
  have h6 := il_mul (p.den : Int) (q.den : Int)
  have h7 := den_one p
  rw [Int.natAbs_natCast] at h4 h5
  rw [Int.natAbs_natCast, Int.natAbs_natCast] at h6
  exact ⟨by omega, by omega⟩
theorem rmul_len (p q : Rat) : (digs (p * q).num.natAbs).length ≤ (digs p.num.natAbs).length + (digs q.num.natAbs).length ∧ (digs (p * q).den).length ≤ (digs p.den).length + (digs q.den).length := by
  rw [← rmul_law p q]
  have h1 := rl_num (a := p.num * q.num) (b := (p.den : Int) * (q.den : Int))
  have h2 := rl_den (a := p.num * q.num) (b := (p.den : Int) * (q.den : Int))
  have h4 := il_mul p.num q.num
  have h6 := il_mul (p.den : Int) (q.den : Int)
  have h7 := den_one p
  rw [Int.natAbs_natCast, Int.natAbs_natCast] at h6
  exact ⟨by omega, by omega⟩
end Go.Vm
namespace Go.Proofs.YtelbjmhhbeijkaaGreat
open Go.Vg Go.RowKit _root_.Go.Proofs.Tryz
set_option linter.unusedVariables false
open Go.Vm
set_option maxHeartbeats 1000000 in
theorem r02_sign {w : World} {sx : Bool} {Dx : Nat → TypeId → Prop} {vx : Value} {x : List Nat} (hx : Sg (gN .u32) Dx w vx x) (lmx : Lm x) (lnx : x.length ≤ 8796093022208) {zx : Int} (ex : sg sx (val x) = zx) :
    Calls Tryz.prog 82 #[(.agg #[(.bool sx), vx])] w fun e w' => ∃ v, e = .returned v ∧ v = .int .i64 (Int.sign zx) ∧ Ext w w' := by
 have hE : Below w.heap.size w w := Below.refl _ _
 have hlzx := il_le lmx ex
 refine calls_of (n := 13) (rs := [.tmp 2]) func82 rfl rfl rfl bL ?_
 refine wset fun F0 hF0 => ?_
 refine wsr ?_
 refine rU (h_bxA (cs := [(.bool sx), vx]) (hF0 0) rfl) ?_
 rintro _ w1 ⟨b2, rfl, hs5, hb4, he3⟩
 have ge_b2 := hE.ge hs5
 replace hE := hE.nx he3
 refine aS (v := (iv 0)) rfl (RL.nil (wsr ?_))
 have hc6 := hb4.cells (o := 0) (cs := [(.bool sx), vx]) rfl
 refine rV (r_loada (o := 0) (cs := [(.bool sx), vx]) uT42 ag42 ty42 rfl hc6) ?_
 replace hx := hx.tr (Sm.ext he3)
 refine RL.call rfl rfl dC (r_call (vl := [(.agg #[(.bool sx), vx])]) ent83 rfl) (r02_norm hx (by assumption) oS (show sg sx (val x) = zx from ex)) ?_
 rintro _ w7 ⟨⟨vr9, rfl, hr10, hl11⟩, he8⟩
 replace hr10 := hr10.fr hE
 replace hb4 := hb4.ext he8
 refine RL.runs rfl rfl (h_stA (cs := [(bd (zx < 0)), vr9]) (o := 0) ty42 rfl rfl rfl rfl (one_cons rfl (one_cons hr10.one one_nil)) hb4 bL) ?_
 rintro w12 ⟨hn13, hx14, hz15⟩
 replace hE := (hE.nx he8).nb hx14 ge_b2
 replace hb4 : Bk w12 b2 42 [(bd (zx < 0)), vr9] := hn13
 refine RL.nil (wseq ?_)
 refine wblock ?_
 refine wsr (rV (r_fieldAddr uT42 rfl ty4 rfl) ?_)
 have hc16 := hb4.cell (j := 0) (u := (bd (zx < 0))) rfl
 refine rV (r_load uT4 ag4 rfl hc16) (aS (v := (bd (zx < 0))) rfl (RL.nil ?_))
 refine wcD (p := zx < 0) rfl (fun hb17 hb17p => ?_) (fun hb17 hb17p => ?_)
 ·have hz := hb17p
  refine wsr (aS (v := (iv (-1))) rfl (RL.nil ?_))
  refine wret ?_
  refine ⟨[(iv (-1))], ⟨rfl, trivial⟩, ?_⟩
  exact ⟨int_eq (Int.sign_eq_neg_one_of_neg hz).symm, hE⟩
 have hz := hb17p
 refine wsr (rV (r_fieldAddr uT42 rfl ty40 rfl) ?_)
 have hc18 := hb4.cell (j := 1) (u := vr9) rfl
 refine rV (r_load uT40 ag40 rfl hc18) ?_
 obtain ⟨A19, c20, hv21, hc22, hc23⟩ := hr10.len
 refine rV (r_len uT40 hv21) (rV (r_eql (k := .i64) (a := (((digs zx.natAbs).length : Nat) : Int)) (b := 0) rfl rfl) (aS (v := (bd ((((digs zx.natAbs).length : Nat) : Int) = 0))) rfl (RL.nil ?_)))
 refine wcD (p := (((digs zx.natAbs).length : Nat) : Int) = 0) rfl (fun hb24 hb24p => ?_) (fun hb24 hb24p => ?_)
 ·have hz0 : zx.natAbs = 0 := len_zero.1 (by unfold len; omega)
  refine wsr (aS (v := (iv 0)) rfl (RL.nil ?_))
  refine wret ?_
  refine ⟨[(iv 0)], ⟨rfl, trivial⟩, ?_⟩
  exact ⟨int_eq (Int.sign_eq_zero_iff_zero.2 oM).symm, hE⟩
 have hz0 : zx.natAbs ≠ 0 := fun h => by have := len_zero.2 h; unfold len at this; omega
 refine wskip ?_
 refine wsr (aS (v := (iv 1)) rfl (RL.nil ?_))
 refine wret ?_
 refine ⟨[(iv 1)], ⟨rfl, trivial⟩, ?_⟩
 exact ⟨int_eq (Int.sign_eq_one_of_pos oM).symm, hE⟩
set_option maxHeartbeats 1000000 in
theorem r02_from {w : World} {k : Int} (hk : -9223372036854775808 ≤ k ∧ k ≤ 9223372036854775807) :
    Calls Tryz.prog 56 #[(iv k)] w fun e w' => ∃ v, e = .returned v ∧ (∃ vr, v = .agg #[.bool (decide (k < 0)), vr] ∧ Sg (gN .u32) (fun b T => w.heap.size ≤ b ∧ T = 89) w' vr (digs k.natAbs) ∧ (digs k.natAbs).length ≤ 2) ∧ Ext w w' := by
 have hE : Below w.heap.size w w := Below.refl _ _
 refine calls_of (n := 16) (rs := [.cell 2 42]) func56 rfl rfl rfl bL ?_
 refine wset fun F0 hF0 => ?_
 refine wsr ?_
 refine rU (h_alloc (cs := [(.bool false), (.slice none 0 0)]) ty42 rfl) ?_
 rintro _ w1 ⟨b2, rfl, hs5, hb4, he3⟩
 have ge_b2 := hE.ge hs5
 replace hE := hE.nx he3
 refine RL.nil (wseq (wsr (mV (v := (iv k)) (hF0 0) (rV (r_lss (k := .i64) (a := k) (b := 0) rfl rfl) (RL.nil ?_)))))
 refine wcD (p := k < 0) rfl (fun hb6 hb6p => ?_) (fun hb6 hb6p => ?_)
 ·refine wsr ?_
  refine mV (v := (iv k)) (hF0 0) (rV (r_add (k := .i64) (a := k) (b := 1) (c := k + 1) rfl rfl (wi64 oM)) (rV (r_neg (k := .i64) (a := k + 1) (c := -(k + 1)) rfl ((wi64 oM).trans oM)) (rV (r_conv (k := .u64) (a := -(k + 1)) (c := (((-(k + 1)).toNat : Nat) : Int)) uT3 uT73 rfl ((wu64 oM).trans oM)) (rV (r_add (k := .u64) (a := (((-(k + 1)).toNat : Nat) : Int)) (b := 1) (c := (((-k).toNat : Nat) : Int)) rfl rfl ((wu64 oM).trans oM)) ?_))))
  refine cL ent88 (r01_from oM) rfl ?_
  rintro vr9 w7 ⟨hr10, he8⟩
  replace hr10 := hr10.fr hE
  replace hE := hE.nx he8
  have hlv11 := dl_u64 (n := (-k).toNat) oM
  refine cL ent87 (r02_make hr10 (digs_lm _) oS (show sg true (val (digs ((-k).toNat))) = k from (by rw [val_digs, sg_t]; omega))) rfl ?_
  rintro _ w12 ⟨⟨vr14, rfl, hr15, hl16⟩, he13⟩
  replace hr15 := hr15.fr hE
  replace hb4 := hb4.ext (Ext.trans he8 he13)
  refine RL.runs rfl rfl (h_stA (cs := [(bd (k < 0)), vr14]) (o := 0) ty42 rfl rfl rfl rfl (one_cons rfl (one_cons hr15.one one_nil)) hb4 bL) ?_
  rintro w17 ⟨hn18, hx19, hz20⟩
  replace hE := (hE.nx he13).nb hx19 ge_b2
  have nb_hx19 := (Nb.of hb4 (nu_cons rfl (nu_cons rfl nu_nil)))
  replace hb4 : Bk w17 b2 42 [(bd (k < 0)), vr14] := hn18
  refine RL.nil ?_
  refine wret ?_
  refine ⟨[(.agg #[(bd (k < 0)), vr14])], ⟨⟨_, _, [(bd (k < 0)), vr14], rfl, ⟨_, uT42⟩, hb4.cells rfl, .inl ⟨ag42, ⟨_, _, ty42⟩, rfl⟩⟩, trivial⟩, ?_⟩
  replace hr15 := hr15.apn hx19 nb_hx19
  exact ⟨⟨_, rfl, hr15, oM⟩, hE⟩
 refine wskip ?_
 refine wsr (mV (v := (iv k)) (hF0 0) (rV (r_conv (k := .u64) (a := k) (c := ((k.toNat : Nat) : Int)) uT3 uT73 rfl ((wu64 oM).trans oM)) ?_))
 refine cL ent88 (r01_from oM) rfl ?_
 rintro vr23 w21 ⟨hr24, he22⟩
 replace hr24 := hr24.fr hE
 replace hE := hE.nx he22
 have hlv25 := dl_u64 (n := k.toNat) oM
 refine cL ent87 (r02_make hr24 (digs_lm _) oS (show sg false (val (digs k.toNat)) = k from (by rw [val_digs, sg_f]; omega))) rfl ?_
 rintro _ w26 ⟨⟨vr28, rfl, hr29, hl30⟩, he27⟩
 replace hr29 := hr29.fr hE
 replace hb4 := hb4.ext (Ext.trans he22 he27)
 refine RL.runs rfl rfl (h_stA (cs := [(bd (k < 0)), vr28]) (o := 0) ty42 rfl rfl rfl rfl (one_cons rfl (one_cons hr29.one one_nil)) hb4 bL) ?_
 rintro w31 ⟨hn32, hx33, hz34⟩
 replace hE := (hE.nx he27).nb hx33 ge_b2
 have nb_hx33 := (Nb.of hb4 (nu_cons rfl (nu_cons rfl nu_nil)))
 replace hb4 : Bk w31 b2 42 [(bd (k < 0)), vr28] := hn32
 refine RL.nil ?_
 refine wret ?_
 refine ⟨[(.agg #[(bd (k < 0)), vr28])], ⟨⟨_, _, [(bd (k < 0)), vr28], rfl, ⟨_, uT42⟩, hb4.cells rfl, .inl ⟨ag42, ⟨_, _, ty42⟩, rfl⟩⟩, trivial⟩, ?_⟩
 replace hr29 := hr29.apn hx33 nb_hx33
 exact ⟨⟨_, rfl, hr29, oM⟩, hE⟩
set_option maxHeartbeats 4000000 in
theorem r02_divmod {w : World} {sx : Bool} {Dx : Nat → TypeId → Prop} {vx : Value} {x : List Nat} (hx : Sg (gN .u32) Dx w vx x) (lmx : Lm x) (lnx : x.length ≤ 274877906944) {zx : Int} (ex : sg sx (val x) = zx) {sy : Bool} {Dy : Nat → TypeId → Prop} {vy : Value} {y : List Nat} (hy : Sg (gN .u32) Dy w vy y) (lmy : Lm y) (lny : y.length ≤ 274877906944) {zy : Int} (ey : sg sy (val y) = zy) :
    Calls Tryz.prog 85 #[(.agg #[(.bool sx), vx]), (.agg #[(.bool sy), vy])] w fun e w' => ∃ v, e = .returned v ∧ (∃ vq vr, v = .tuple #[.agg #[.bool (decide (zx / zy < 0)), vq], .agg #[.bool (decide (modI zx zy < 0)), vr], .bool (decide (zy ≠ 0))] ∧ Sg (gN .u32) (fun b T => w.heap.size ≤ b ∧ T = 89) w' vq (digs (zx / zy).natAbs) ∧ (digs (zx / zy).natAbs).length ≤ x.length + 3 ∧ Sg (gN .u32) (fun b T => w.heap.size ≤ b ∧ T = 89) w' vr (digs (modI zx zy).natAbs) ∧ (digs (modI zx zy).natAbs).length ≤ y.length) ∧ Ext w w' := by
 have hE : Below w.heap.size w w := Below.refl _ _
 have hlzx := il_le lmx ex
 have hlzy := il_le lmy ey
 refine calls_of (n := 49) (rs := [.cell 4 42, .cell 5 42, .tmp 6]) func85 rfl rfl rfl bL ?_
 refine wset fun F0 hF0 => ?_
 refine wsr ?_
 refine rU (h_bxA (cs := [(.bool sx), vx]) (hF0 0) rfl) ?_
 rintro _ w1 ⟨b2, rfl, hs5, hb4, he3⟩
 have ge_b2 := hE.ge hs5
 replace hE := hE.nx he3
 refine rU (h_bxA (cs := [(.bool sy), vy]) (hF0 1) rfl) ?_
 rintro _ w6 ⟨b7, rfl, hs10, hb9, he8⟩
 have lt_b2_b7 := Nat.lt_of_lt_of_eq hb4.lt hs10.symm
 have ge_b7 := hE.ge hs10
 replace hE := hE.nx he8
 refine rU (h_alloc (cs := [(.bool false), (.slice none 0 0)]) ty42 rfl) ?_
 rintro _ w11 ⟨b12, rfl, hs15, hb14, he13⟩
 have lt_b7_b12 := Nat.lt_of_lt_of_eq hb9.lt hs15.symm
 have ge_b12 := hE.ge hs15
 replace hE := hE.nx he13
 refine rU (h_alloc (cs := [(.bool false), (.slice none 0 0)]) ty42 rfl) ?_
 rintro _ w16 ⟨b17, rfl, hs20, hb19, he18⟩
 have lt_b12_b17 := Nat.lt_of_lt_of_eq hb14.lt hs20.symm
 have ge_b17 := hE.ge hs20
 replace hE := hE.nx he18
 refine aS (v := (.bool false)) rfl (RL.nil (wsr (rV (r_fieldAddr uT42 rfl ty40 rfl) ?_)))
 have hm22 := Ext.trans he8 (Ext.trans he13 he18)
 replace hb4 := hb4.ext hm22
 have hc21 := hb4.cell (j := 1) (u := vx) rfl
 refine rV (r_load uT40 ag40 rfl hc21) (rV (r_fieldAddr uT42 rfl ty40 rfl) ?_)
 replace hb9 := hb9.ext (Ext.trans he13 he18)
 have hc23 := hb9.cell (j := 1) (u := vy) rfl
 refine rV (r_load uT40 ag40 rfl hc23) ?_
 have hm32 := Ext.trans he3 (Ext.trans he8 (Ext.trans he13 he18))
 replace hx := hx.tr (Sm.ext hm32)
 replace hy := hy.tr (Sm.ext hm32)
 refine cL ent109 (r01_divmod hx (by assumption) oS hy (by assumption) oS) rfl ?_
 rintro vv30 w24 ⟨⟨vq26, vr28, hv31, hq27, hr29⟩, he25⟩
 subst hv31
 have hlv33 := dl_val (x := x) (by assumption)
 have hlv34 := dl_val (x := y) (by assumption)
 have hlv35 := dl_div (val x) (val y)
 have hlv36 := dl_modZ (val x) (val y)
 have hlv37 := dl_modZ' (val x) (val y)
 replace hq27 := hq27.fr hE
 replace hr29 := hr29.fr hE
 replace hE := hE.nx he25
 refine mV (v := (.tuple #[vq26, vr28, (bd ((val y) ≠ 0))])) rfl (rV (r_extract (v := vq26) rfl rfl) (rV (r_extract (v := vr28) rfl rfl) (rV (r_extract (v := (bd ((val y) ≠ 0))) rfl rfl) (aS (v := vq26) rfl (aS (v := vr28) rfl (aS (v := (bd ((val y) ≠ 0))) rfl (RL.nil (wseq (wsr (mV (v := (bd ((val y) ≠ 0))) rfl (rV (r_not rfl) (RL.nil ?_))))))))))))
 refine wcond (b := !(decide ((val y) ≠ 0))) rfl (fun hb38 => ?_) (fun hb38 => ?_)
 ·have hb38p := hb38
  have hyn : val y = 0 := by simpa using hb38
  have hy0 : zy = 0 := by rw [← ey, hyn, sg_zero]
  refine wsr (rV (r_build (vl := []) (cs := [(.bool false), (.slice none 0 0)]) uT42 ty42 rfl (pl42 uT42) rfl) (rV (r_build (vl := []) (cs := [(.bool false), (.slice none 0 0)]) uT42 ty42 rfl (pl42 uT42) rfl) ?_))
  replace hb14 := hb14.ext (Ext.trans he18 he25)
  refine RL.runs rfl rfl (h_stA (cs := [(.bool false), (.slice none 0 0)]) (o := 0) ty42 rfl rfl rfl rfl (one_cons rfl (one_cons rfl one_nil)) hb14 bL) ?_
  rintro w39 ⟨hn40, hx41, hz42⟩
  replace hb14 : Bk w39 b12 42 [(.bool false), (.slice none 0 0)] := hn40
  replace hb19 := (hb19.ext he25).exc hx41 (Nat.ne_of_gt lt_b12_b17)
  refine RL.runs rfl rfl (h_stA (cs := [(.bool false), (.slice none 0 0)]) (o := 0) ty42 rfl rfl rfl rfl (one_cons rfl (one_cons rfl one_nil)) hb19 bL) ?_
  rintro w43 ⟨hn44, hx45, hz46⟩
  replace hE := (hE.nb hx41 ge_b12).nb hx45 ge_b17
  replace hb19 : Bk w43 b17 42 [(.bool false), (.slice none 0 0)] := hn44
  refine aS (v := (.bool false)) rfl (RL.nil ?_)
  refine wret ?_
  replace hb14 := hb14.exc hx45 (Nat.ne_of_lt lt_b12_b17)
  refine ⟨[(.agg #[(.bool false), (.slice none 0 0)]), (.agg #[(.bool false), (.slice none 0 0)]), (.bool false)], ⟨⟨_, _, [(.bool false), (.slice none 0 0)], rfl, ⟨_, uT42⟩, hb14.cells rfl, .inl ⟨ag42, ⟨_, _, ty42⟩, rfl⟩⟩, ⟨⟨_, _, [(.bool false), (.slice none 0 0)], rfl, ⟨_, uT42⟩, hb19.cells rfl, .inl ⟨ag42, ⟨_, _, ty42⟩, rfl⟩⟩, ⟨rfl, trivial⟩⟩⟩, ?_⟩
  exact ⟨⟨_, _, by rw [hy0, Int.ediv_zero, decide_eq_false (show ¬ ((0 : Int) ≠ 0) by decide)]; rfl, by rw [hy0, Int.ediv_zero]; exact Sg.nil, by rw [hy0, Int.ediv_zero]; exact Nat.zero_le _, by rw [hy0]; exact Sg.nil, by rw [hy0]; exact Nat.zero_le _⟩, hE⟩
 have hb38p := hb38
 have hyn : val y ≠ 0 := by simpa using hb38
 refine wskip ?_
 refine wseq ?_
 obtain ⟨Q0, hQ0⟩ : ∃ z, sg (sx != sy) (val (digs ((val x) / (val y)))) = z := ⟨_, rfl⟩
 obtain ⟨R0, hR0⟩ : ∃ z, sg sx (val (digs (modZ (val x) (val y)))) = z := ⟨_, rfl⟩
 have hlaw := idiv_law (Q := Q0) (R := R0) ex ey hyn (by rw [← hQ0, val_digs]) (by rw [← hR0, val_digs, show modZ (val x) (val y) = val x % val y from if_neg hyn])
 have hyz : zy ≠ 0 := fun h => hyn (sg_eq_zero.1 (ey.trans h))
 refine wdraw mixed fun w47 he48 => ?_
 replace hE := hE.nx he48
 refine ra 0 rfl (fun _ => r_fieldAddr uT42 rfl ty4 rfl) ?_
 replace hb4 := hb4.ext (Ext.trans he25 he48)
 have hc49 := hb4.cell (j := 0) (u := (.bool sx)) rfl
 refine aR 1 rfl (fun u hu => r_load uT4 ag4 rfl (cell_ext hu hc49)) ?_
 refine ra 2 rfl (fun _ => r_fieldAddr uT42 rfl ty4 rfl) ?_
 replace hb9 := hb9.ext (Ext.trans he25 he48)
 have hc50 := hb9.cell (j := 0) (u := (.bool sy)) rfl
 refine aR 3 rfl (fun u hu => r_load uT4 ag4 rfl (cell_ext hu hc50)) ?_
 refine ra 4 rfl (fun _ => r_neqb uT4 rfl rfl) ?_
 refine aM 5 rfl (v := vq26) rfl ?_
 refine ra 7 rfl (fun _ => r_fieldAddr uT42 rfl ty4 rfl) ?_
 have hc51 := hb4.cell (j := 0) (u := (.bool sx)) rfl
 refine aR 8 rfl (fun u hu => r_load uT4 ag4 rfl (cell_ext hu hc51)) ?_
 refine aM 9 rfl (v := vr28) rfl ?_
 refine RA.all [6] kR rfl ?_
 replace hq27 := hq27.tr (Sm.ext he48)
 refine cS ent87 (r02_make hq27 (digs_lm _) oS (show sg (sx != sy) (val (digs ((val x) / (val y)))) = Q0 from hQ0)) rfl rfl ?_ RS.nil
 rintro _ w52 ⟨⟨vr54, rfl, hr55, hl56⟩, he53⟩
 refine rm he53 ?_
 replace hr55 := hr55.fr hE
 replace hE := hE.nx he53
 refine RA.all [10] kR rfl ?_
 replace hr29 := hr29.tr (Sm.ext (Ext.trans he48 he53))
 refine cS ent87 (r02_make hr29 (digs_lm _) oS (show sg sx (val (digs (modZ (val x) (val y)))) = R0 from hR0)) rfl rfl ?_ RS.nil
 rintro _ w57 ⟨⟨vr59, rfl, hr60, hl61⟩, he58⟩
 refine rm he58 ?_
 replace hr60 := hr60.fr hE
 refine RA.all [11] kR rfl ?_
 have hm66 := Ext.trans he18 (Ext.trans he25 (Ext.trans he48 (Ext.trans he53 he58)))
 replace hb14 := hb14.ext hm66
 refine RS.runs rfl rfl rfl (h_stA (cs := [(bd (Q0 < 0)), vr54]) (o := 0) ty42 rfl rfl rfl rfl (one_cons rfl (one_cons hr55.one one_nil)) hb14 bL) ?_ RS.nil
 rintro w62 ⟨hn63, hx64, hz65⟩
 refine ⟨.inr (.inl kR), ?_⟩
 have nb_hx64 := (Nb.of hb14 (nu_cons rfl (nu_cons rfl nu_nil)))
 replace hb14 : Bk w62 b12 42 [(bd (Q0 < 0)), vr54] := hn63
 refine RA.all [12] kR rfl ?_
 have hm71 := Ext.trans he25 (Ext.trans he48 (Ext.trans he53 he58))
 replace hb19 := (hb19.ext hm71).exc hx64 (Nat.ne_of_gt lt_b12_b17)
 refine RS.runs rfl rfl rfl (h_stA (cs := [(bd (R0 < 0)), vr59]) (o := 0) ty42 rfl rfl rfl rfl (one_cons rfl (one_cons hr60.one one_nil)) hb19 bL) ?_ RS.nil
 rintro w67 ⟨hn68, hx69, hz70⟩
 refine ⟨.inr (.inl kR), ?_⟩
 replace hE := ((hE.nx he58).nb hx64 ge_b12).nb hx69 ge_b17
 have nb_hx69 := (Nb.of hb19 (nu_cons rfl (nu_cons rfl nu_nil)))
 replace hb19 : Bk w67 b17 42 [(bd (R0 < 0)), vr59] := hn68
 refine RA.done kR ?_
 refine wseq (wsr (rV (r_fieldAddr uT42 rfl ty4 rfl) ?_))
 have hc72 := hb19.cell (j := 0) (u := (bd (R0 < 0))) rfl
 refine rV (r_load uT4 ag4 rfl hc72) (RL.nil ?_)
 refine wcD (p := R0 < 0) rfl (fun hb73 hb73p => ?_) (fun hb73 hb73p => ?_)
 ·have hR := hb73p
  refine wseq ?_
  refine wdraw mixed fun w74 he75 => ?_
  replace hE := hE.nx he75
  replace hb19 := hb19.ext he75
  have hc76 := hb19.cells (o := 0) (cs := [(bd (R0 < 0)), vr59]) rfl
  refine aR 0 rfl (fun u hu => r_loada (o := 0) (cs := [(bd (R0 < 0)), vr59]) uT42 ag42 ty42 rfl (fun j v hj => cell_ext hu (hc76 j v hj))) ?_
  replace hb9 := (((hb9.ext (Ext.trans he53 he58)).exc hx64 (Nat.ne_of_lt lt_b7_b12)).exc hx69 (Nat.ne_of_lt (Nat.lt_trans lt_b7_b12 lt_b12_b17))).ext he75
  have hc77 := hb9.cells (o := 0) (cs := [(.bool sy), vy]) rfl
  refine aR 1 rfl (fun u hu => r_loada (o := 0) (cs := [(.bool sy), vy]) uT42 ag42 ty42 rfl (fun j v hj => cell_ext hu (hc77 j v hj))) ?_
  refine RA.all [2] kR rfl ?_
  replace hy := (((hy.tr (Sm.ext hm71)).apn hx64 nb_hx64).apn hx69 nb_hx69).tr (Sm.ext he75)
  refine RS.call rfl rfl rfl dC (r_call (vl := [(.agg #[(.bool sy), vy])]) ent110 rfl) (r02_abs hy (by assumption) oS (show sg sy (val y) = zy from ey)) ?_ RS.nil
  rintro _ w78 ⟨⟨vr80, rfl, hr81, hl82⟩, he79⟩
  refine rm he79 ?_
  replace hr81 := hr81.fr hE
  replace hE := hE.nx he79
  refine RA.all [3] kR rfl ?_
  replace hr60 := ((hr60.apn hx64 nb_hx64).apn hx69 nb_hx69).tr (Sm.ext (Ext.trans he75 he79))
  refine RS.call rfl rfl rfl dC (r_call (vl := [(.agg #[(bd (R0 < 0)), vr59]), (.agg #[(bd (((zy.natAbs : Nat) : Int) < 0)), vr80])]) ent95 rfl) (r02_add hr60 (digs_lm _) oS (sg_canon _) hr81 (digs_lm _) oS (sg_canon _)) ?_ RS.nil
  rintro _ w83 ⟨⟨vr85, rfl, hr86, hl87⟩, he84⟩
  refine rm he84 ?_
  replace hr86 := hr86.fr hE
  refine RA.all [4] kR rfl ?_
  replace hb19 := hb19.ext (Ext.trans he79 he84)
  refine RS.runs rfl rfl rfl (h_stA (cs := [(bd ((R0 + ((zy.natAbs : Nat) : Int)) < 0)), vr85]) (o := 0) ty42 rfl rfl rfl rfl (one_cons rfl (one_cons hr86.one one_nil)) hb19 bL) ?_ RS.nil
  rintro w88 ⟨hn89, hx90, hz91⟩
  refine ⟨.inr (.inl kR), ?_⟩
  replace hE := (hE.nx he84).nb hx90 ge_b17
  have nb_hx90 := (Nb.of hb19 (nu_cons rfl (nu_cons hr60.nu nu_nil)))
  replace hb19 : Bk w88 b17 42 [(bd ((R0 + ((zy.natAbs : Nat) : Int)) < 0)), vr85] := hn89
  refine RA.done kR ?_
  refine wsr (rV (r_fieldAddr uT42 rfl ty4 rfl) ?_)
  replace hb9 := (hb9.ext (Ext.trans he79 he84)).exc hx90 (Nat.ne_of_lt (Nat.lt_trans lt_b7_b12 lt_b12_b17))
  have hc92 := hb9.cell (j := 0) (u := (.bool sy)) rfl
  refine rV (r_load uT4 ag4 rfl hc92) (RL.nil ?_)
  refine wcond (b := sy) rfl (fun hb93 => ?_) (fun hb93 => ?_)
  ·have hb93p := hb93
   have hsy : sy = true := hb93
   refine wdraw mixed fun w94 he95 => ?_
   replace hE := hE.nx he95
   have hm97 := Ext.trans he75 (Ext.trans he79 he84)
   replace hb14 := (((hb14.exc hx69 (Nat.ne_of_lt lt_b12_b17)).ext hm97).exc hx90 (Nat.ne_of_lt lt_b12_b17)).ext he95
   have hc96 := hb14.cells (o := 0) (cs := [(bd (Q0 < 0)), vr54]) rfl
   refine aR 0 rfl (fun u hu => r_loada (o := 0) (cs := [(bd (Q0 < 0)), vr54]) uT42 ag42 ty42 rfl (fun j v hj => cell_ext hu (hc96 j v hj))) ?_
   refine RA.all [1] kR rfl ?_
   refine cS ent56 (r02_from oM) rfl rfl ?_ RS.nil
   rintro _ w98 ⟨⟨vr100, rfl, hr101, hl102⟩, he99⟩
   refine rm he99 ?_
   replace hr101 := hr101.fr hE
   replace hE := hE.nx he99
   refine RA.all [2] kR rfl ?_
   replace hr55 := (((((hr55.tr (Sm.ext he58)).apn hx64 nb_hx64).apn hx69 nb_hx69).tr (Sm.ext hm97)).apn hx90 nb_hx90).tr (Sm.ext (Ext.trans he95 he99))
   refine RS.call rfl rfl rfl dC (r_call (vl := [(.agg #[(bd (Q0 < 0)), vr54]), (.agg #[(bd (1 < 0)), vr100])]) ent95 rfl) (r02_add hr55 (digs_lm _) oS (sg_canon _) hr101 (digs_lm _) oS (sg_canon _)) ?_ RS.nil
   rintro _ w103 ⟨⟨vr105, rfl, hr106, hl107⟩, he104⟩
   refine rm he104 ?_
   replace hr106 := hr106.fr hE
   refine RA.all [3] kR rfl ?_
   replace hb14 := hb14.ext (Ext.trans he99 he104)
   refine RS.runs rfl rfl rfl (h_stA (cs := [(bd ((Q0 + 1) < 0)), vr105]) (o := 0) ty42 rfl rfl rfl rfl (one_cons rfl (one_cons hr106.one one_nil)) hb14 bL) ?_ RS.nil
   rintro w108 ⟨hn109, hx110, hz111⟩
   refine ⟨.inr (.inl kR), ?_⟩
   have nb_hx110 := (Nb.of hb14 (nu_cons rfl (nu_cons hr55.nu nu_nil)))
   replace hb14 : Bk w108 b12 42 [(bd ((Q0 + 1) < 0)), vr105] := hn109
   refine RA.done kR ?_
   refine wseq ?_
   refine wdrawT (fun u => Bk u b17 42 [(bd ((R0 + ((zy.natAbs : Nat) : Int)) < 0)), vr85]) mixed fun w112 he113 => ?_
   have hm114 := Ext.trans he95 (Ext.trans he99 he104)
   replace hb19 := ((hb19.ext hm114).exc hx110 (Nat.ne_of_gt lt_b12_b17)).ext he113
   refine RA.rd 1 rfl kR rfl rfl rfl dC hb19 (fun u hu => r_loada (o := 0) (cs := [(bd ((R0 + ((zy.natAbs : Nat) : Int)) < 0)), vr85]) uT42 ag42 ty42 rfl (hu.cells (o := 0) (cs := [(bd ((R0 + ((zy.natAbs : Nat) : Int)) < 0)), vr85]) rfl)) ?_
   refine RA.all [0] kR rfl ?_
   replace hb14 := hb14.ext he113
   have hc116 := hb14.cells (o := 0) (cs := [(bd ((Q0 + 1) < 0)), vr105]) rfl
   refine RS.val rfl rfl rfl dC (r_loada (o := 0) (cs := [(bd ((Q0 + 1) < 0)), vr105]) uT42 ag42 ty42 rfl hc116) (.inl ⟨rfl, rfl⟩) ?_ RS.nil
   refine RA.all [2] kR rfl ?_
   refine RS.runs rfl rfl rfl (h_stA (cs := [(bd ((Q0 + 1) < 0)), vr105]) (o := 0) ty42 rfl rfl rfl rfl (one_cons rfl (one_cons hr106.one one_nil)) hb14 bL) ?_ RS.nil
   rintro w117 ⟨hn118, hx119, hz120⟩
   have nb_hx119 := (Nb.of hb14 (nu_cons rfl (nu_cons hr106.nu nu_nil)))
   replace hb14 : Bk w117 b12 42 [(bd ((Q0 + 1) < 0)), vr105] := hn118
   replace hb19 := hb19.exc hx119 (Nat.ne_of_gt lt_b12_b17)
   refine ⟨.inr (.inr hb19), ?_⟩
   refine RA.all [3] kR rfl ?_
   refine RS.runs rfl rfl rfl (h_stA (cs := [(bd ((R0 + ((zy.natAbs : Nat) : Int)) < 0)), vr85]) (o := 0) ty42 rfl rfl rfl rfl (one_cons rfl (one_cons hr86.one one_nil)) hb19 bL) ?_ RS.nil
   rintro w121 ⟨hn122, hx123, hz124⟩
   refine ⟨.inr (.inl kR), ?_⟩
   replace hE := ((((hE.nx he104).nb hx110 ge_b12).nx he113).nb hx119 ge_b12).nb hx123 ge_b17
   have nb_hx123 := (Nb.of hb19 (nu_cons rfl (nu_cons hr86.nu nu_nil)))
   replace hb19 : Bk w121 b17 42 [(bd ((R0 + ((zy.natAbs : Nat) : Int)) < 0)), vr85] := hn122
   refine aA 4 rfl (v := (.bool true)) rfl ?_
   refine RA.done kR ?_
   refine wret ?_
   replace hb14 := hb14.exc hx123 (Nat.ne_of_lt lt_b12_b17)
   refine ⟨[(.agg #[(bd ((Q0 + 1) < 0)), vr105]), (.agg #[(bd ((R0 + ((zy.natAbs : Nat) : Int)) < 0)), vr85]), (.bool true)], ⟨⟨_, _, [(bd ((Q0 + 1) < 0)), vr105], rfl, ⟨_, uT42⟩, hb14.cells rfl, .inl ⟨ag42, ⟨_, _, ty42⟩, rfl⟩⟩, ⟨⟨_, _, [(bd ((R0 + ((zy.natAbs : Nat) : Int)) < 0)), vr85], rfl, ⟨_, uT42⟩, hb19.cells rfl, .inl ⟨ag42, ⟨_, _, ty42⟩, rfl⟩⟩, ⟨rfl, trivial⟩⟩⟩, ?_⟩
   replace hr106 := (((hr106.apn hx110 nb_hx110).tr (Sm.ext he113)).apn hx119 nb_hx119).apn hx123 nb_hx123
   have hq1 := hr106
   replace hr86 := (((((hr86.apn hx90 nb_hx90).tr (Sm.ext hm114)).apn hx110 nb_hx110).tr (Sm.ext he113)).apn hx119 nb_hx119).apn hx123 nb_hx123
   have hr1 := hr86
   have eq1 : zx / zy = (Q0 + 1) := by first | exact (hlaw.2 hR).1 | exact (hlaw.1 hR).1 hsy | exact (hlaw.1 hR).2.1 hsy
   have er1 : modI zx zy = (R0 + ((zy.natAbs : Nat) : Int)) := by rw [show modI zx zy = zx % zy from if_neg hyz]; first | exact (hlaw.2 hR).2 | exact (hlaw.1 hR).2.2
   have hlm := il_modI zx zy
   exact ⟨⟨_, _, by rw [eq1, er1, decide_eq_true hyz]; rfl, by rw [eq1]; exact hq1, by rw [eq1]; omega, by rw [er1]; exact hr1, by omega⟩, hE⟩
  have hb93p := hb93
  have hsy : sy = false := hb93
  refine wdraw mixed fun w125 he126 => ?_
  replace hE := hE.nx he126
  have hm128 := Ext.trans he75 (Ext.trans he79 he84)
  replace hb14 := (((hb14.exc hx69 (Nat.ne_of_lt lt_b12_b17)).ext hm128).exc hx90 (Nat.ne_of_lt lt_b12_b17)).ext he126
  have hc127 := hb14.cells (o := 0) (cs := [(bd (Q0 < 0)), vr54]) rfl
  refine aR 0 rfl (fun u hu => r_loada (o := 0) (cs := [(bd (Q0 < 0)), vr54]) uT42 ag42 ty42 rfl (fun j v hj => cell_ext hu (hc127 j v hj))) ?_
  refine RA.all [1] kR rfl ?_
  refine cS ent56 (r02_from oM) rfl rfl ?_ RS.nil
  rintro _ w129 ⟨⟨vr131, rfl, hr132, hl133⟩, he130⟩
  refine rm he130 ?_
  replace hr132 := hr132.fr hE
  replace hE := hE.nx he130
  refine RA.all [2] kR rfl ?_
  replace hr55 := (((((hr55.tr (Sm.ext he58)).apn hx64 nb_hx64).apn hx69 nb_hx69).tr (Sm.ext hm128)).apn hx90 nb_hx90).tr (Sm.ext (Ext.trans he126 he130))
  refine RS.call rfl rfl rfl dC (r_call (vl := [(.agg #[(bd (Q0 < 0)), vr54]), (.agg #[(bd (1 < 0)), vr131])]) ent111 rfl) (r02_sub hr55 (digs_lm _) oS (sg_canon _) hr132 (digs_lm _) oS (sg_canon _)) ?_ RS.nil
  rintro _ w134 ⟨⟨vr136, rfl, hr137, hl138⟩, he135⟩
  refine rm he135 ?_
  replace hr137 := hr137.fr hE
  refine RA.all [3] kR rfl ?_
  replace hb14 := hb14.ext (Ext.trans he130 he135)
  refine RS.runs rfl rfl rfl (h_stA (cs := [(bd ((Q0 - 1) < 0)), vr136]) (o := 0) ty42 rfl rfl rfl rfl (one_cons rfl (one_cons hr137.one one_nil)) hb14 bL) ?_ RS.nil
  rintro w139 ⟨hn140, hx141, hz142⟩
  refine ⟨.inr (.inl kR), ?_⟩
  have nb_hx141 := (Nb.of hb14 (nu_cons rfl (nu_cons hr55.nu nu_nil)))
  replace hb14 : Bk w139 b12 42 [(bd ((Q0 - 1) < 0)), vr136] := hn140
  refine RA.done kR ?_
  refine wseq ?_
  refine wdrawT (fun u => Bk u b17 42 [(bd ((R0 + ((zy.natAbs : Nat) : Int)) < 0)), vr85]) mixed fun w143 he144 => ?_
  have hm145 := Ext.trans he126 (Ext.trans he130 he135)
  replace hb19 := ((hb19.ext hm145).exc hx141 (Nat.ne_of_gt lt_b12_b17)).ext he144
  refine RA.rd 1 rfl kR rfl rfl rfl dC hb19 (fun u hu => r_loada (o := 0) (cs := [(bd ((R0 + ((zy.natAbs : Nat) : Int)) < 0)), vr85]) uT42 ag42 ty42 rfl (hu.cells (o := 0) (cs := [(bd ((R0 + ((zy.natAbs : Nat) : Int)) < 0)), vr85]) rfl)) ?_
  refine RA.all [0] kR rfl ?_
  replace hb14 := hb14.ext he144
  have hc147 := hb14.cells (o := 0) (cs := [(bd ((Q0 - 1) < 0)), vr136]) rfl
  refine RS.val rfl rfl rfl dC (r_loada (o := 0) (cs := [(bd ((Q0 - 1) < 0)), vr136]) uT42 ag42 ty42 rfl hc147) (.inl ⟨rfl, rfl⟩) ?_ RS.nil
  refine RA.all [2] kR rfl ?_
  refine RS.runs rfl rfl rfl (h_stA (cs := [(bd ((Q0 - 1) < 0)), vr136]) (o := 0) ty42 rfl rfl rfl rfl (one_cons rfl (one_cons hr137.one one_nil)) hb14 bL) ?_ RS.nil
  rintro w148 ⟨hn149, hx150, hz151⟩
  have nb_hx150 := (Nb.of hb14 (nu_cons rfl (nu_cons hr137.nu nu_nil)))
  replace hb14 : Bk w148 b12 42 [(bd ((Q0 - 1) < 0)), vr136] := hn149
  replace hb19 := hb19.exc hx150 (Nat.ne_of_gt lt_b12_b17)
  refine ⟨.inr (.inr hb19), ?_⟩
  refine RA.all [3] kR rfl ?_
  refine RS.runs rfl rfl rfl (h_stA (cs := [(bd ((R0 + ((zy.natAbs : Nat) : Int)) < 0)), vr85]) (o := 0) ty42 rfl rfl rfl rfl (one_cons rfl (one_cons hr86.one one_nil)) hb19 bL) ?_ RS.nil
  rintro w152 ⟨hn153, hx154, hz155⟩
  refine ⟨.inr (.inl kR), ?_⟩
  replace hE := ((((hE.nx he135).nb hx141 ge_b12).nx he144).nb hx150 ge_b12).nb hx154 ge_b17
  have nb_hx154 := (Nb.of hb19 (nu_cons rfl (nu_cons hr86.nu nu_nil)))
  replace hb19 : Bk w152 b17 42 [(bd ((R0 + ((zy.natAbs : Nat) : Int)) < 0)), vr85] := hn153
  refine aA 4 rfl (v := (.bool true)) rfl ?_
  refine RA.done kR ?_
  refine wret ?_
  replace hb14 := hb14.exc hx154 (Nat.ne_of_lt lt_b12_b17)
  refine ⟨[(.agg #[(bd ((Q0 - 1) < 0)), vr136]), (.agg #[(bd ((R0 + ((zy.natAbs : Nat) : Int)) < 0)), vr85]), (.bool true)], ⟨⟨_, _, [(bd ((Q0 - 1) < 0)), vr136], rfl, ⟨_, uT42⟩, hb14.cells rfl, .inl ⟨ag42, ⟨_, _, ty42⟩, rfl⟩⟩, ⟨⟨_, _, [(bd ((R0 + ((zy.natAbs : Nat) : Int)) < 0)), vr85], rfl, ⟨_, uT42⟩, hb19.cells rfl, .inl ⟨ag42, ⟨_, _, ty42⟩, rfl⟩⟩, ⟨rfl, trivial⟩⟩⟩, ?_⟩
  replace hr137 := (((hr137.apn hx141 nb_hx141).tr (Sm.ext he144)).apn hx150 nb_hx150).apn hx154 nb_hx154
  have hq1 := hr137
  replace hr86 := (((((hr86.apn hx90 nb_hx90).tr (Sm.ext hm145)).apn hx141 nb_hx141).tr (Sm.ext he144)).apn hx150 nb_hx150).apn hx154 nb_hx154
  have hr1 := hr86
  have eq1 : zx / zy = (Q0 - 1) := by first | exact (hlaw.2 hR).1 | exact (hlaw.1 hR).1 hsy | exact (hlaw.1 hR).2.1 hsy
  have er1 : modI zx zy = (R0 + ((zy.natAbs : Nat) : Int)) := by rw [show modI zx zy = zx % zy from if_neg hyz]; first | exact (hlaw.2 hR).2 | exact (hlaw.1 hR).2.2
  have hlm := il_modI zx zy
  exact ⟨⟨_, _, by rw [eq1, er1, decide_eq_true hyz]; rfl, by rw [eq1]; exact hq1, by rw [eq1]; omega, by rw [er1]; exact hr1, by omega⟩, hE⟩
 have hR := hb73p
 refine wskip ?_
 refine wseq ?_
 refine wdrawT (fun u => Bk u b17 42 [(bd (R0 < 0)), vr59]) mixed fun w156 he157 => ?_
 replace hb19 := hb19.ext he157
 refine RA.rd 1 rfl kR rfl rfl rfl dC hb19 (fun u hu => r_loada (o := 0) (cs := [(bd (R0 < 0)), vr59]) uT42 ag42 ty42 rfl (hu.cells (o := 0) (cs := [(bd (R0 < 0)), vr59]) rfl)) ?_
 refine RA.all [0] kR rfl ?_
 replace hb14 := (hb14.exc hx69 (Nat.ne_of_lt lt_b12_b17)).ext he157
 have hc159 := hb14.cells (o := 0) (cs := [(bd (Q0 < 0)), vr54]) rfl
 refine RS.val rfl rfl rfl dC (r_loada (o := 0) (cs := [(bd (Q0 < 0)), vr54]) uT42 ag42 ty42 rfl hc159) (.inl ⟨rfl, rfl⟩) ?_ RS.nil
 refine RA.all [2] kR rfl ?_
 refine RS.runs rfl rfl rfl (h_stA (cs := [(bd (Q0 < 0)), vr54]) (o := 0) ty42 rfl rfl rfl rfl (one_cons rfl (one_cons hr55.one one_nil)) hb14 bL) ?_ RS.nil
 rintro w160 ⟨hn161, hx162, hz163⟩
 have nb_hx162 := (Nb.of hb14 (nu_cons rfl (nu_cons hr55.nu nu_nil)))
 replace hb14 : Bk w160 b12 42 [(bd (Q0 < 0)), vr54] := hn161
 replace hb19 := hb19.exc hx162 (Nat.ne_of_gt lt_b12_b17)
 refine ⟨.inr (.inr hb19), ?_⟩
 refine RA.all [3] kR rfl ?_
 refine RS.runs rfl rfl rfl (h_stA (cs := [(bd (R0 < 0)), vr59]) (o := 0) ty42 rfl rfl rfl rfl (one_cons rfl (one_cons hr60.one one_nil)) hb19 bL) ?_ RS.nil
 rintro w164 ⟨hn165, hx166, hz167⟩
 refine ⟨.inr (.inl kR), ?_⟩
 replace hE := ((hE.nx he157).nb hx162 ge_b12).nb hx166 ge_b17
 have nb_hx166 := (Nb.of hb19 (nu_cons rfl (nu_cons hr60.nu nu_nil)))
 replace hb19 : Bk w164 b17 42 [(bd (R0 < 0)), vr59] := hn165
 refine aA 4 rfl (v := (.bool true)) rfl ?_
 refine RA.done kR ?_
 refine wret ?_
 replace hb14 := hb14.exc hx166 (Nat.ne_of_lt lt_b12_b17)
 refine ⟨[(.agg #[(bd (Q0 < 0)), vr54]), (.agg #[(bd (R0 < 0)), vr59]), (.bool true)], ⟨⟨_, _, [(bd (Q0 < 0)), vr54], rfl, ⟨_, uT42⟩, hb14.cells rfl, .inl ⟨ag42, ⟨_, _, ty42⟩, rfl⟩⟩, ⟨⟨_, _, [(bd (R0 < 0)), vr59], rfl, ⟨_, uT42⟩, hb19.cells rfl, .inl ⟨ag42, ⟨_, _, ty42⟩, rfl⟩⟩, ⟨rfl, trivial⟩⟩⟩, ?_⟩
 replace hr55 := (((((hr55.tr (Sm.ext he58)).apn hx64 nb_hx64).apn hx69 nb_hx69).tr (Sm.ext he157)).apn hx162 nb_hx162).apn hx166 nb_hx166
 have hq1 := hr55
 replace hr60 := ((((hr60.apn hx64 nb_hx64).apn hx69 nb_hx69).tr (Sm.ext he157)).apn hx162 nb_hx162).apn hx166 nb_hx166
 have hr1 := hr60
 have eq1 : zx / zy = Q0 := by first | exact (hlaw.2 hR).1 | exact (hlaw.1 hR).1 hsy | exact (hlaw.1 hR).2.1 hsy
 have er1 : modI zx zy = R0 := by rw [show modI zx zy = zx % zy from if_neg hyz]; first | exact (hlaw.2 hR).2 | exact (hlaw.1 hR).2.2
 have hlm := il_modI zx zy
 exact ⟨⟨_, _, by rw [eq1, er1, decide_eq_true hyz]; rfl, by rw [eq1]; exact hq1, by rw [eq1]; omega, by rw [er1]; exact hr1, by omega⟩, hE⟩
end Go.Proofs.YtelbjmhhbeijkaaGreat
namespace Go.Proofs.YtelbjmhhbeijkaaGreat
open Go.Vg Go.RowKit _root_.Go.Proofs.Tryz
set_option linter.unusedVariables false
open Go.Vm
theorem agg3 {b c : Bool} {v u : Value} (h : b = c) : Value.agg #[.bool b, v, u] = .agg #[.bool c, v, u] := by rw [h]
theorem sign_eq (q : Rat) : Int.sign q.num = 0 ↔ q = 0 := by rw [← Rat.num_eq_zero]; exact Int.sign_eq_zero_iff_zero
set_option maxHeartbeats 1000000 in
theorem r03_zero {w : World} :
    Calls Tryz.prog 62 #[] w fun e w' => ∃ v, e = .returned v ∧ (∃ vn vd, v = .agg #[.bool (decide ((0 : Rat).num < 0)), vn, vd] ∧ Sg (gN .u32) (fun b T => w.heap.size ≤ b ∧ T = 89) w' vn (digs (0 : Rat).num.natAbs) ∧ Sg (gN .u32) (fun b T => w.heap.size ≤ b ∧ T = 89) w' vd (digs (0 : Rat).den) ∧ (digs (0 : Rat).num.natAbs).length ≤ 0 ∧ (digs (0 : Rat).den).length ≤ 1) ∧ Ext w w' := by
 have hE : Below w.heap.size w w := Below.refl _ _
 refine calls_of (n := 5) (rs := [.cell 0 44]) func62 rfl rfl rfl bL ?_
 refine wset fun F0 hF0 => ?_
 refine wsr ?_
 refine rU (h_alloc (cs := [(.bool false), (.slice none 0 0), (.slice none 0 0)]) ty44 rfl) ?_
 rintro _ w1 ⟨b2, rfl, hs5, hb4, he3⟩
 have ge_b2 := hE.ge hs5
 replace hE := hE.nx he3
 refine RL.nil (wsr ?_)
 refine rU (h_lit (vl := []) (cs := []) uT40 ty89 rfl dC (by first | (simp [Instr.fill, Value.cells]; done) | rfl | kernel_rfl)) ?_
 rintro _ w6 ⟨b7, rfl, hs10, hb9, he8⟩
 have lt_b2_b7 := Nat.lt_of_lt_of_eq hb4.lt hs10.symm
 have ge_b7 := hE.ge hs10
 replace hE := hE.nx he8
 refine rV (r_build (vl := [(1, (.slice (some ⟨b7, 0, none⟩) (0) (0)))]) (cs := [(.bool false), (.slice (some ⟨b7, 0, none⟩) (0) (0))]) uT42 ty42 rfl (pl42 uT42) rfl) ?_
 refine rU (h_lit (vl := [(0, (.int .u32 1))]) (cs := [(.int .u32 1)]) uT40 ty89 rfl dC (by first | (simp [Instr.fill, Value.cells]; done) | rfl | kernel_rfl)) ?_
 rintro _ w11 ⟨b12, rfl, hs15, hb14, he13⟩
 have lt_b7_b12 := Nat.lt_of_lt_of_eq hb9.lt hs15.symm
 have ge_b12 := hE.ge hs15
 refine rV (r_build (vl := [(0, (.agg #[(.bool false), (.slice (some ⟨b7, 0, none⟩) (0) (0))])), (1, (.slice (some ⟨b12, 0, none⟩) (1) (1)))]) (cs := [(.bool false), (.slice (some ⟨b7, 0, none⟩) (0) (0)), (.slice (some ⟨b12, 0, none⟩) (1) (1))]) uT44 ty44 rfl (pl44 uT44) rfl) ?_
 replace hb4 := hb4.ext (Ext.trans he8 he13)
 refine RL.runs rfl rfl (h_stA (cs := [(.bool false), (.slice (some ⟨b7, 0, none⟩) (0) (0)), (.slice (some ⟨b12, 0, none⟩) (1) (1))]) (o := 0) ty44 rfl rfl rfl rfl (one_cons rfl (one_cons rfl (one_cons rfl one_nil))) hb4 bL) ?_
 rintro w16 ⟨hn17, hx18, hz19⟩
 replace hE := (hE.nx he13).nb hx18 ge_b2
 replace hb4 : Bk w16 b2 44 [(.bool false), (.slice (some ⟨b7, 0, none⟩) (0) (0)), (.slice (some ⟨b12, 0, none⟩) (1) (1))] := hn17
 refine RL.nil ?_
 refine wret ?_
 refine ⟨[(.agg #[(.bool false), (.slice (some ⟨b7, 0, none⟩) (0) (0)), (.slice (some ⟨b12, 0, none⟩) (1) (1))])], ⟨⟨_, _, [(.bool false), (.slice (some ⟨b7, 0, none⟩) (0) (0)), (.slice (some ⟨b12, 0, none⟩) (1) (1))], rfl, ⟨_, uT44⟩, hb4.cells rfl, .inl ⟨ag44, ⟨_, _, ty44⟩, rfl⟩⟩, trivial⟩, ?_⟩
 replace hb9 := (hb9.ext he13).exc hx18 (Nat.ne_of_gt lt_b2_b7)
 replace hb14 := hb14.exc hx18 (Nat.ne_of_gt (Nat.lt_trans lt_b2_b7 lt_b7_b12))
 exact ⟨⟨_, _, rfl, hb9.sg (g := gN .u32) (D := (fun b T => w.heap.size ≤ b ∧ T = 89)) (xs := []) ⟨ge_b7, rfl⟩ rfl rfl dC, hb14.sg (g := gN .u32) (D := (fun b T => w.heap.size ≤ b ∧ T = 89)) (xs := [1]) ⟨ge_b12, rfl⟩ rfl rfl dC, Nat.zero_le _, Nat.le_refl _⟩, hE⟩
set_option maxHeartbeats 4000000 in
theorem r03_make {w : World} {sx : Bool} {Dx : Nat → TypeId → Prop} {vx : Value} {x : List Nat} (hx : Sg (gN .u32) Dx w vx x) (lmx : Lm x) (lnx : x.length ≤ 274877906944) {zx : Int} (ex : sg sx (val x) = zx) {sy : Bool} {Dy : Nat → TypeId → Prop} {vy : Value} {y : List Nat} (hy : Sg (gN .u32) Dy w vy y) (lmy : Lm y) (lny : y.length ≤ 274877906944) {zy : Int} (ey : sg sy (val y) = zy) :
    Calls Tryz.prog 55 #[(.agg #[(.bool sx), vx]), (.agg #[(.bool sy), vy])] w fun e w' => ∃ v, e = .returned v ∧ (∃ vn vd, v = .agg #[.bool (decide ((Rat.divInt zx zy).num < 0)), vn, vd] ∧ Sg (gN .u32) (fun b T => w.heap.size ≤ b ∧ T = 89) w' vn (digs (Rat.divInt zx zy).num.natAbs) ∧ Sg (gN .u32) (fun b T => w.heap.size ≤ b ∧ T = 89) w' vd (digs (Rat.divInt zx zy).den) ∧ (digs (Rat.divInt zx zy).num.natAbs).length ≤ x.length ∧ (digs (Rat.divInt zx zy).den).length ≤ y.length + 1) ∧ Ext w w' := by
 have hE : Below w.heap.size w w := Below.refl _ _
 have hlzx := il_le lmx ex
 have hlzy := il_le lmy ey
 refine calls_of (n := 60) (rs := [.cell 4 44]) func55 rfl rfl rfl bL ?_
 refine wset fun F0 hF0 => ?_
 refine wsr ?_
 refine rU (h_bxA (cs := [(.bool sx), vx]) (hF0 0) rfl) ?_
 rintro _ w1 ⟨b2, rfl, hs5, hb4, he3⟩
 have ge_b2 := hE.ge hs5
 replace hE := hE.nx he3
 refine rU (h_bxA (cs := [(.bool sy), vy]) (hF0 1) rfl) ?_
 rintro _ w6 ⟨b7, rfl, hs10, hb9, he8⟩
 have lt_b2_b7 := Nat.lt_of_lt_of_eq hb4.lt hs10.symm
 have ge_b7 := hE.ge hs10
 replace hE := hE.nx he8
 refine rU (h_alloc (cs := [(.bool false), (.slice none 0 0), (.slice none 0 0)]) ty44 rfl) ?_
 rintro _ w11 ⟨b12, rfl, hs15, hb14, he13⟩
 have lt_b7_b12 := Nat.lt_of_lt_of_eq hb9.lt hs15.symm
 have ge_b12 := hE.ge hs15
 refine RL.nil (wseq (wsr ?_))
 replace hb9 := hb9.ext he13
 have hc16 := hb9.cells (o := 0) (cs := [(.bool sy), vy]) rfl
 refine rV (r_loada (o := 0) (cs := [(.bool sy), vy]) uT42 ag42 ty42 rfl hc16) ?_
 have hm19 := Ext.trans he3 (Ext.trans he8 he13)
 replace hy := hy.tr (Sm.ext hm19)
 refine RL.call rfl rfl dC (r_call (vl := [(.agg #[(.bool sy), vy])]) ent82 rfl) (r02_sign hy (by assumption) oS (show sg sy (val y) = zy from ey)) ?_
 rintro _ w17 ⟨rfl, he18⟩
 replace hE := (hE.nx he13).nx he18
 refine rV (r_eql (k := .i64) (a := Int.sign zy) (b := 0) rfl rfl) (RL.nil ?_)
 refine wcD (p := (Int.sign zy) = 0) rfl (fun hb20 hb20p => ?_) (fun hb20 hb20p => ?_)
 ·have hy0 : zy = 0 := Int.sign_eq_zero_iff_zero.1 hb20p
  refine wsr ?_
  refine cL ent62 (r03_zero ) rfl ?_
  rintro _ w21 ⟨⟨vn23, vd25, rfl, hn24, hd26, hl27, hl28⟩, he22⟩
  have hlv29 := den_one (0 : Rat)
  replace hn24 := hn24.fr hE
  replace hd26 := hd26.fr hE
  replace hb14 := hb14.ext (Ext.trans he18 he22)
  refine RL.runs rfl rfl (h_stA (cs := [(bd ((0 : Rat).num < 0)), vn23, vd25]) (o := 0) ty44 rfl rfl rfl rfl (one_cons rfl (one_cons hn24.one (one_cons hd26.one one_nil))) hb14 bL) ?_
  rintro w30 ⟨hn31, hx32, hz33⟩
  replace hE := (hE.nx he22).nb hx32 ge_b12
  have nb_hx32 := (Nb.of hb14 (nu_cons rfl (nu_cons rfl (nu_cons rfl nu_nil))))
  replace hb14 : Bk w30 b12 44 [(bd ((0 : Rat).num < 0)), vn23, vd25] := hn31
  refine RL.nil ?_
  refine wret ?_
  refine ⟨[(.agg #[(bd ((0 : Rat).num < 0)), vn23, vd25])], ⟨⟨_, _, [(bd ((0 : Rat).num < 0)), vn23, vd25], rfl, ⟨_, uT44⟩, hb14.cells rfl, .inl ⟨ag44, ⟨_, _, ty44⟩, rfl⟩⟩, trivial⟩, ?_⟩
  have hq : Rat.divInt zx zy = 0 := by rw [hy0, Rat.divInt_zero]
  rw [hq]
  replace hn24 := hn24.apn hx32 nb_hx32
  replace hd26 := hd26.apn hx32 nb_hx32
  exact ⟨⟨_, _, rfl, hn24, hd26, by omega, by omega⟩, hE⟩
 have hy0 : zy ≠ 0 := fun h => hb20p (Int.sign_eq_zero_iff_zero.2 h)
 have hlaw := make_law (zx := zx) hy0
 refine wskip ?_
 refine wseq (wsr ?_)
 replace hb9 := hb9.ext he18
 have hc34 := hb9.cells (o := 0) (cs := [(.bool sy), vy]) rfl
 refine rV (r_loada (o := 0) (cs := [(.bool sy), vy]) uT42 ag42 ty42 rfl hc34) ?_
 replace hy := hy.tr (Sm.ext he18)
 refine RL.call rfl rfl dC (r_call (vl := [(.agg #[(.bool sy), vy])]) ent83 rfl) (r02_norm hy (by assumption) oS (show sg sy (val y) = zy from ey)) ?_
 rintro _ w35 ⟨⟨vr37, rfl, hr38, hl39⟩, he36⟩
 replace hr38 := hr38.fr hE
 replace hE := hE.nx he36
 refine rU (h_alloc (cs := [(.bool false), (.slice none 0 0)]) ty42 rfl) ?_
 rintro _ w40 ⟨b41, rfl, hs44, hb43, he42⟩
 replace hb14 := hb14.ext (Ext.trans he18 he36)
 have lt_b12_b41 := Nat.lt_of_lt_of_eq hb14.lt hs44.symm
 have ge_b41 := hE.ge hs44
 refine RL.runs rfl rfl (h_stA (cs := [(bd (zy < 0)), vr37]) (o := 0) ty42 rfl rfl rfl rfl (one_cons rfl (one_cons hr38.one one_nil)) hb43 bL) ?_
 rintro w45 ⟨hn46, hx47, hz48⟩
 replace hE := (hE.nx he42).nb hx47 ge_b41
 have nb_hx47 := (Nb.of hb43 (nu_cons rfl (nu_cons rfl nu_nil)))
 replace hb43 : Bk w45 b41 42 [(bd (zy < 0)), vr37] := hn46
 refine RL.nil ?_
 refine wset fun F49 hF50 => ?_
 refine wcut (fun fl wl => ∃ t : Bool, Off (rg 19 9 []) F49 fl ∧ fl 27 = (.bool t) ∧ (t = true → ¬ zy < 0 ∧ digs zy.natAbs = [1]) ∧ (Sg (gN .u32) Dx wl vx x) ∧ (Sg (gN .u32) Dy wl vy y) ∧ (Below w.heap.size w wl) ∧ (Bk wl b2 42 [(.bool sx), vx]) ∧ (Bk wl b7 42 [(.bool sy), vy]) ∧ (Bk wl b12 44 [(.bool false), (.slice none 0 0), (.slice none 0 0)]) ∧ (Sg (gN .u32) (fun b T => w.heap.size ≤ b ∧ T = 89) wl vr37 (digs zy.natAbs)) ∧ (Bk wl b41 42 [(bd (zy < 0)), vr37])) ?_ ?_
 ·have G51 := Off.refl (rg 19 9 []) F49
  refine wregion (rV (r_fieldAddr uT42 rfl ty4 (hF50 5)) ?_)
  have hc52 := hb43.cell (j := 0) (u := (bd (zy < 0))) rfl
  refine rV (r_load uT4 ag4 rfl hc52) (rV (r_not rfl) (mV (v := (.bool (!(decide (zy < 0))))) rfl ?_))
  rcases Bool.eq_false_or_eq_true (!(decide (zy < 0))) with hb53 | hb53
  ·have hb53p := hb53
   have hyp : ¬ zy < 0 := by simpa using hb53
   refine RL.gval rfl rfl (bool_eq hb53) rfl dC (r_fieldAddr uT42 rfl ty40 (hF50 5)) ?_
   have hc54 := hb43.cell (j := 1) (u := vr37) rfl
   refine RL.gval rfl rfl (bool_eq hb53) rfl dC (r_load uT40 ag40 rfl hc54) ?_
   refine RL.grun rfl rfl (bool_eq hb53) rfl dC (h_lit (vl := [(0, (.int .u32 1))]) (cs := [(.int .u32 1)]) uT40 ty89 rfl dC (by first | (simp [Instr.fill, Value.cells]; done) | rfl | kernel_rfl)) ?_
   rintro _ w55 ⟨b56, rfl, hs59, hb58, he57⟩
   have lt_b41_b56 := Nat.lt_of_lt_of_eq hb43.lt hs59.symm
   have ge_b56 := hE.ge hs59
   replace hr38 := ((hr38.tr (Sm.ext he42)).apn hx47 nb_hx47).tr (Sm.ext he57)
   refine RL.gcall rfl rfl (bool_eq hb53) rfl dC (r_call (vl := [vr37, (.slice (some ⟨b56, 0, none⟩) (1) (1))]) ent41 rfl) (r01_equal hr38 (hb58.sg (g := gN .u32) (D := fun _ _ => True) (xs := [1]) trivial rfl rfl dC)) ?_
   rintro _ w60 ⟨rfl, he61⟩
   replace hE := (hE.nx he57).nx he61
   refine rV (r_pick_t (v := (bd ((digs zy.natAbs) = [1]))) (bool_eq hb53) rfl) (RL.nil ?_)
   have hm62 := Ext.trans he3 (Ext.trans he8 (Ext.trans he13 (Ext.trans he18 (Ext.trans he36 he42))))
   replace hx := ((hx.tr (Sm.ext hm62)).apn hx47 nb_hx47).tr (Sm.ext (Ext.trans he57 he61))
   replace hy := ((hy.tr (Sm.ext (Ext.trans he36 he42))).apn hx47 nb_hx47).tr (Sm.ext (Ext.trans he57 he61))
   have hm63 := Ext.trans he8 (Ext.trans he13 (Ext.trans he18 (Ext.trans he36 he42)))
   replace hb4 := ((hb4.ext hm63).exc hx47 (Nat.ne_of_lt (Nat.lt_trans lt_b2_b7 (Nat.lt_trans lt_b7_b12 lt_b12_b41)))).ext (Ext.trans he57 he61)
   replace hb9 := ((hb9.ext (Ext.trans he36 he42)).exc hx47 (Nat.ne_of_lt (Nat.lt_trans lt_b7_b12 lt_b12_b41))).ext (Ext.trans he57 he61)
   replace hb14 := ((hb14.ext he42).exc hx47 (Nat.ne_of_lt lt_b12_b41)).ext (Ext.trans he57 he61)
   replace hr38 := hr38.tr (Sm.ext he61)
   replace hb43 := hb43.ext (Ext.trans he57 he61)
   refine ⟨decide ((digs zy.natAbs) = [1]), ?_, ?_, ?_, ?_, ?_, ?_, ?_, ?_, ?_, ?_, ?_⟩
   · exact (by repeat (first | exact G51 | refine Off.st ?_ dC _))
   · rfl
   · exact fun h => ⟨hyp, of_decide_eq_true h⟩
   · exact hx
   · exact hy
   · exact hE
   · exact hb4
   · exact hb9
   · exact hb14
   · exact hr38
   exact hb43
  have hb53p := hb53
  refine RL.gno rfl rfl (bool_eq hb53) rfl dC ?_
  refine RL.gno rfl rfl (bool_eq hb53) rfl dC ?_
  refine RL.gno rfl rfl (bool_eq hb53) rfl dC ?_
  refine RL.gno rfl rfl (bool_eq hb53) rfl dC ?_
  refine rV (r_pick_f (v := (.bool false)) (bool_eq hb53) rfl) (RL.nil ?_)
  have hm64 := Ext.trans he3 (Ext.trans he8 (Ext.trans he13 (Ext.trans he18 (Ext.trans he36 he42))))
  replace hx := (hx.tr (Sm.ext hm64)).apn hx47 nb_hx47
  replace hy := (hy.tr (Sm.ext (Ext.trans he36 he42))).apn hx47 nb_hx47
  have hm65 := Ext.trans he8 (Ext.trans he13 (Ext.trans he18 (Ext.trans he36 he42)))
  replace hb4 := (hb4.ext hm65).exc hx47 (Nat.ne_of_lt (Nat.lt_trans lt_b2_b7 (Nat.lt_trans lt_b7_b12 lt_b12_b41)))
  replace hb9 := (hb9.ext (Ext.trans he36 he42)).exc hx47 (Nat.ne_of_lt (Nat.lt_trans lt_b7_b12 lt_b12_b41))
  replace hb14 := (hb14.ext he42).exc hx47 (Nat.ne_of_lt lt_b12_b41)
  replace hr38 := (hr38.tr (Sm.ext he42)).apn hx47 nb_hx47
  refine ⟨false, ?_, ?_, ?_, ?_, ?_, ?_, ?_, ?_, ?_, ?_, ?_⟩
  · exact (by repeat (first | exact G51 | refine Off.st ?_ dC _))
  · rfl
  · exact fun h => by cases h
  · exact hx
  · exact hy
  · exact hE
  · exact hb4
  · exact hb9
  · exact hb14
  · exact hr38
  exact hb43
 clear hx hy hE hb4 hb9 hb14 hr38 hb43
 rintro f66 w67 ⟨t, G68, hs69, ht, hx, hy, hE, hb4, hb9, hb14, hr38, hb43⟩
 refine wcond (b := t) hs69 (fun hb70 => ?_) (fun hb70 => ?_)
 ·have hb70p := hb70
  have hyp := (ht hb70).1
  have hyd := (ht hb70).2
  have hy1 : zy = 1 := by have h1 := congrArg val hyd; rw [val_digs] at h1; simp [val] at h1; omega
  have hya : zy.natAbs = 1 := by omega
  refine wseq ?_
  refine wdraw mixed fun w71 he72 => ?_
  replace hE := hE.nx he72
  replace hb4 := hb4.ext he72
  have hc73 := hb4.cells (o := 0) (cs := [(.bool sx), vx]) rfl
  refine aR 0 rfl (fun u hu => r_loada (o := 0) (cs := [(.bool sx), vx]) uT42 ag42 ty42 ((G68 2 rfl).trans (hF50 2)) (fun j v hj => cell_ext hu (hc73 j v hj))) ?_
  refine ra 2 rfl (fun _ => r_fieldAddr uT42 rfl ty40 ((G68 5 rfl).trans (hF50 5))) ?_
  replace hb43 := hb43.ext he72
  have hc74 := hb43.cell (j := 1) (u := vr37) rfl
  refine aR 3 rfl (fun u hu => r_load uT40 ag40 rfl (cell_ext hu hc74)) ?_
  refine RA.all [1] kR rfl ?_
  replace hx := hx.tr (Sm.ext he72)
  refine RS.call rfl rfl rfl dC (r_call (vl := [(.agg #[(.bool sx), vx])]) ent83 rfl) (r02_norm hx (by assumption) oS (show sg sx (val x) = zx from ex)) ?_ RS.nil
  rintro _ w75 ⟨⟨vr77, rfl, hr78, hl79⟩, he76⟩
  refine rm he76 ?_
  replace hr78 := hr78.fr hE
  refine ra 4 rfl (fun _ => r_build (vl := [(0, (.agg #[(bd (zx < 0)), vr77])), (1, vr37)]) (cs := [(bd (zx < 0)), vr77, vr37]) uT44 ty44 rfl (pl44 uT44) (by obtain ⟨_, _, e0_, -, -⟩ := hr38.len; simp only [e0_]; rfl)) ?_
  refine RA.all [5] kR rfl ?_
  replace hb14 := hb14.ext (Ext.trans he72 he76)
  refine RS.runs rfl rfl rfl (h_stA (cs := [(bd (zx < 0)), vr77, vr37]) (o := 0) ty44 ((G68 4 rfl).trans (hF50 4)) rfl rfl rfl (one_cons rfl (one_cons hr78.one (one_cons hr38.one one_nil))) hb14 bL) ?_ RS.nil
  rintro w80 ⟨hn81, hx82, hz83⟩
  refine ⟨.inr (.inl kR), ?_⟩
  replace hE := (hE.nx he76).nb hx82 ge_b12
  have nb_hx82 := (Nb.of hb14 (nu_cons rfl (nu_cons rfl (nu_cons rfl nu_nil))))
  replace hb14 : Bk w80 b12 44 [(bd (zx < 0)), vr77, vr37] := hn81
  refine RA.done kR ?_
  refine wret ?_
  refine ⟨[(.agg #[(bd (zx < 0)), vr77, vr37])], ⟨⟨_, _, [(bd (zx < 0)), vr77, vr37], ((G68 4 rfl).trans (hF50 4)), ⟨_, uT44⟩, hb14.cells rfl, .inl ⟨ag44, ⟨_, _, ty44⟩, rfl⟩⟩, trivial⟩, ?_⟩
  have e1 : (Rat.divInt zx zy).num = zx ∧ (Rat.divInt zx zy).den = zy.natAbs := by
    first | (rw [hy1]; exact divInt_one zx) | exact hlaw.1 hd | exact hlaw.2 hd
  have hl1 := rl_num (a := zx) (b := zy)
  have hl2 := rl_den (a := zx) (b := zy)
  replace hr78 := hr78.apn hx82 nb_hx82
  replace hr38 := (hr38.tr (Sm.ext (Ext.trans he72 he76))).apn hx82 nb_hx82
  exact ⟨⟨_, _, agg3 (by rw [e1.1]), by rw [e1.1]; exact hr78, by rw [e1.2]; exact hr38, by omega, by omega⟩, hE⟩
 have hb70p := hb70
 refine wskip ?_
 refine wsr ?_
 have hc84 := hb4.cells (o := 0) (cs := [(.bool sx), vx]) rfl
 refine rV (r_loada (o := 0) (cs := [(.bool sx), vx]) uT42 ag42 ty42 ((G68 2 rfl).trans (hF50 2)) hc84) ?_
 have hc85 := hb9.cells (o := 0) (cs := [(.bool sy), vy]) rfl
 refine rV (r_loada (o := 0) (cs := [(.bool sy), vy]) uT42 ag42 ty42 ((G68 3 rfl).trans (hF50 3)) hc85) ?_
 refine RL.call rfl rfl dC (r_call (vl := [(.agg #[(.bool sx), vx]), (.agg #[(.bool sy), vy])]) ent84 rfl) (r02_gcd hx (by assumption) oS (show sg sx (val x) = zx from ex) hy (by assumption) oS (show sg sy (val y) = zy from ey)) ?_
 rintro _ w86 ⟨⟨vr88, rfl, hr89, hl90⟩, he87⟩
 replace hr89 := hr89.fr hE
 replace hE := hE.nx he87
 refine rU (h_alloc (cs := [(.bool false), (.slice none 0 0)]) ty42 rfl) ?_
 rintro _ w91 ⟨b92, rfl, hs95, hb94, he93⟩
 replace hb43 := hb43.ext he87
 have lt_b41_b92 := Nat.lt_of_lt_of_eq hb43.lt hs95.symm
 have ge_b92 := hE.ge hs95
 refine RL.runs rfl rfl (h_stA (cs := [(bd (((Int.gcd zx zy : Nat) : Int) < 0)), vr88]) (o := 0) ty42 rfl rfl rfl rfl (one_cons rfl (one_cons hr89.one one_nil)) hb94 bL) ?_
 rintro w96 ⟨hn97, hx98, hz99⟩
 replace hE := (hE.nx he93).nb hx98 ge_b92
 have nb_hx98 := (Nb.of hb94 (nu_cons rfl (nu_cons rfl nu_nil)))
 replace hb94 : Bk w96 b92 42 [(bd (((Int.gcd zx zy : Nat) : Int) < 0)), vr88] := hn97
 refine RL.nil (wsr ?_)
 replace hb4 := (hb4.ext (Ext.trans he87 he93)).exc hx98 (Nat.ne_of_lt (Nat.lt_trans lt_b2_b7 (Nat.lt_trans lt_b7_b12 (Nat.lt_trans lt_b12_b41 lt_b41_b92))))
 have hc100 := hb4.cells (o := 0) (cs := [(.bool sx), vx]) rfl
 refine rV (r_loada (o := 0) (cs := [(.bool sx), vx]) uT42 ag42 ty42 ((G68 2 rfl).trans (hF50 2)) hc100) ?_
 have hc101 := hb94.cells (o := 0) (cs := [(bd (((Int.gcd zx zy : Nat) : Int) < 0)), vr88]) rfl
 refine rV (r_loada (o := 0) (cs := [(bd (((Int.gcd zx zy : Nat) : Int) < 0)), vr88]) uT42 ag42 ty42 rfl hc101) ?_
 replace hx := (hx.tr (Sm.ext (Ext.trans he87 he93))).apn hx98 nb_hx98
 replace hr89 := (hr89.tr (Sm.ext he93)).apn hx98 nb_hx98
 refine RL.call rfl rfl dC (r_call (vl := [(.agg #[(.bool sx), vx]), (.agg #[(bd (((Int.gcd zx zy : Nat) : Int) < 0)), vr88])]) ent85 rfl) (r02_divmod hx (by assumption) oS (show sg sx (val x) = zx from ex) hr89 (digs_lm _) oS (sg_canon _)) ?_
 rintro _ w102 ⟨⟨vq104, vr107, rfl, hq105, hl106, hr108, hl109⟩, he103⟩
 replace hq105 := hq105.fr hE
 replace hr108 := hr108.fr hE
 replace hE := hE.nx he103
 refine mV (v := (.tuple #[(.agg #[(bd ((zx / ((Int.gcd zx zy : Nat) : Int)) < 0)), vq104]), (.agg #[(bd ((modI zx ((Int.gcd zx zy : Nat) : Int)) < 0)), vr107]), (bd (((Int.gcd zx zy : Nat) : Int) ≠ 0))])) rfl (rV (r_extract (v := (.agg #[(bd ((zx / ((Int.gcd zx zy : Nat) : Int)) < 0)), vq104])) rfl rfl) (rV (r_extract (v := (.agg #[(bd ((modI zx ((Int.gcd zx zy : Nat) : Int)) < 0)), vr107])) rfl rfl) (rV (r_extract (v := (bd (((Int.gcd zx zy : Nat) : Int) ≠ 0))) rfl rfl) ?_)))
 refine rU (h_alloc (cs := [(.bool false), (.slice none 0 0)]) ty42 rfl) ?_
 rintro _ w110 ⟨b111, rfl, hs114, hb113, he112⟩
 replace hb94 := hb94.ext he103
 have lt_b92_b111 := Nat.lt_of_lt_of_eq hb94.lt hs114.symm
 have ge_b111 := hE.ge hs114
 replace hE := hE.nx he112
 refine rU (h_alloc (cs := [(.bool false), (.slice none 0 0)]) ty42 rfl) ?_
 rintro _ w115 ⟨b116, rfl, hs119, hb118, he117⟩
 have lt_b111_b116 := Nat.lt_of_lt_of_eq hb113.lt hs119.symm
 have ge_b116 := hE.ge hs119
 replace hb113 := hb113.ext he117
 refine RL.runs rfl rfl (h_stA (cs := [(bd ((zx / ((Int.gcd zx zy : Nat) : Int)) < 0)), vq104]) (o := 0) ty42 rfl rfl rfl rfl (one_cons rfl (one_cons hq105.one one_nil)) hb113 bL) ?_
 rintro w120 ⟨hn121, hx122, hz123⟩
 have nb_hx122 := (Nb.of hb113 (nu_cons rfl (nu_cons rfl nu_nil)))
 replace hb113 : Bk w120 b111 42 [(bd ((zx / ((Int.gcd zx zy : Nat) : Int)) < 0)), vq104] := hn121
 replace hb118 := hb118.exc hx122 (Nat.ne_of_gt lt_b111_b116)
 refine RL.runs rfl rfl (h_stA (cs := [(bd ((modI zx ((Int.gcd zx zy : Nat) : Int)) < 0)), vr107]) (o := 0) ty42 rfl rfl rfl rfl (one_cons rfl (one_cons hr108.one one_nil)) hb118 bL) ?_
 rintro w124 ⟨hn125, hx126, hz127⟩
 replace hE := ((hE.nx he117).nb hx122 ge_b111).nb hx126 ge_b116
 have nb_hx126 := (Nb.of hb118 (nu_cons rfl (nu_cons rfl nu_nil)))
 replace hb118 : Bk w124 b116 42 [(bd ((modI zx ((Int.gcd zx zy : Nat) : Int)) < 0)), vr107] := hn125
 refine aS (v := (bd (((Int.gcd zx zy : Nat) : Int) ≠ 0))) rfl (RL.nil (wsr ?_))
 have hm129 := Ext.trans he103 (Ext.trans he112 he117)
 replace hb9 := ((((hb9.ext (Ext.trans he87 he93)).exc hx98 (Nat.ne_of_lt (Nat.lt_trans lt_b7_b12 (Nat.lt_trans lt_b12_b41 lt_b41_b92)))).ext hm129).exc hx122 (Nat.ne_of_lt (Nat.lt_trans lt_b7_b12 (Nat.lt_trans lt_b12_b41 (Nat.lt_trans lt_b41_b92 lt_b92_b111))))).exc hx126 (Nat.ne_of_lt (Nat.lt_trans lt_b7_b12 (Nat.lt_trans lt_b12_b41 (Nat.lt_trans lt_b41_b92 (Nat.lt_trans lt_b92_b111 lt_b111_b116)))))
 have hc128 := hb9.cells (o := 0) (cs := [(.bool sy), vy]) rfl
 refine rV (r_loada (o := 0) (cs := [(.bool sy), vy]) uT42 ag42 ty42 ((G68 3 rfl).trans (hF50 3)) hc128) ?_
 replace hb94 := ((hb94.ext (Ext.trans he112 he117)).exc hx122 (Nat.ne_of_lt lt_b92_b111)).exc hx126 (Nat.ne_of_lt (Nat.lt_trans lt_b92_b111 lt_b111_b116))
 have hc130 := hb94.cells (o := 0) (cs := [(bd (((Int.gcd zx zy : Nat) : Int) < 0)), vr88]) rfl
 refine rV (r_loada (o := 0) (cs := [(bd (((Int.gcd zx zy : Nat) : Int) < 0)), vr88]) uT42 ag42 ty42 rfl hc130) ?_
 replace hy := ((((hy.tr (Sm.ext (Ext.trans he87 he93))).apn hx98 nb_hx98).tr (Sm.ext hm129)).apn hx122 nb_hx122).apn hx126 nb_hx126
 replace hr89 := ((hr89.tr (Sm.ext hm129)).apn hx122 nb_hx122).apn hx126 nb_hx126
 refine RL.call rfl rfl dC (r_call (vl := [(.agg #[(.bool sy), vy]), (.agg #[(bd (((Int.gcd zx zy : Nat) : Int) < 0)), vr88])]) ent85 rfl) (r02_divmod hy (by assumption) oS (show sg sy (val y) = zy from ey) hr89 (digs_lm _) oS (sg_canon _)) ?_
 rintro _ w131 ⟨⟨vq133, vr136, rfl, hq134, hl135, hr137, hl138⟩, he132⟩
 replace hq134 := hq134.fr hE
 replace hr137 := hr137.fr hE
 replace hE := hE.nx he132
 refine mV (v := (.tuple #[(.agg #[(bd ((zy / ((Int.gcd zx zy : Nat) : Int)) < 0)), vq133]), (.agg #[(bd ((modI zy ((Int.gcd zx zy : Nat) : Int)) < 0)), vr136]), (bd (((Int.gcd zx zy : Nat) : Int) ≠ 0))])) rfl (rV (r_extract (v := (.agg #[(bd ((zy / ((Int.gcd zx zy : Nat) : Int)) < 0)), vq133])) rfl rfl) (rV (r_extract (v := (.agg #[(bd ((modI zy ((Int.gcd zx zy : Nat) : Int)) < 0)), vr136])) rfl rfl) (rV (r_extract (v := (bd (((Int.gcd zx zy : Nat) : Int) ≠ 0))) rfl rfl) ?_)))
 refine rU (h_alloc (cs := [(.bool false), (.slice none 0 0)]) ty42 rfl) ?_
 rintro _ w139 ⟨b140, rfl, hs143, hb142, he141⟩
 replace hb118 := hb118.ext he132
 have lt_b116_b140 := Nat.lt_of_lt_of_eq hb118.lt hs143.symm
 have ge_b140 := hE.ge hs143
 replace hE := hE.nx he141
 refine rU (h_alloc (cs := [(.bool false), (.slice none 0 0)]) ty42 rfl) ?_
 rintro _ w144 ⟨b145, rfl, hs148, hb147, he146⟩
 have lt_b140_b145 := Nat.lt_of_lt_of_eq hb142.lt hs148.symm
 have ge_b145 := hE.ge hs148
 replace hb142 := hb142.ext he146
 refine RL.runs rfl rfl (h_stA (cs := [(bd ((zy / ((Int.gcd zx zy : Nat) : Int)) < 0)), vq133]) (o := 0) ty42 rfl rfl rfl rfl (one_cons rfl (one_cons hq134.one one_nil)) hb142 bL) ?_
 rintro w149 ⟨hn150, hx151, hz152⟩
 have nb_hx151 := (Nb.of hb142 (nu_cons rfl (nu_cons rfl nu_nil)))
 replace hb142 : Bk w149 b140 42 [(bd ((zy / ((Int.gcd zx zy : Nat) : Int)) < 0)), vq133] := hn150
 replace hb147 := hb147.exc hx151 (Nat.ne_of_gt lt_b140_b145)
 refine RL.runs rfl rfl (h_stA (cs := [(bd ((modI zy ((Int.gcd zx zy : Nat) : Int)) < 0)), vr136]) (o := 0) ty42 rfl rfl rfl rfl (one_cons rfl (one_cons hr137.one one_nil)) hb147 bL) ?_
 rintro w153 ⟨hn154, hx155, hz156⟩
 replace hE := ((hE.nx he146).nb hx151 ge_b140).nb hx155 ge_b145
 have nb_hx155 := (Nb.of hb147 (nu_cons rfl (nu_cons rfl nu_nil)))
 replace hb147 : Bk w153 b145 42 [(bd ((modI zy ((Int.gcd zx zy : Nat) : Int)) < 0)), vr136] := hn154
 refine aS (v := (bd (((Int.gcd zx zy : Nat) : Int) ≠ 0))) rfl (RL.nil (wseq (wsr (rV (r_fieldAddr uT42 rfl ty4 rfl) ?_))))
 replace hb142 := hb142.exc hx155 (Nat.ne_of_lt lt_b140_b145)
 have hc157 := hb142.cell (j := 0) (u := (bd ((zy / ((Int.gcd zx zy : Nat) : Int)) < 0))) rfl
 refine rV (r_load uT4 ag4 rfl hc157) (RL.nil ?_)
 refine wcD (p := (zy / ((Int.gcd zx zy : Nat) : Int)) < 0) rfl (fun hb158 hb158p => ?_) (fun hb158 hb158p => ?_)
 ·have hd := hb158p
  refine wdraw mixed fun w159 he160 => ?_
  replace hE := hE.nx he160
  have hm162 := Ext.trans he132 (Ext.trans he141 he146)
  replace hb113 := ((((hb113.exc hx126 (Nat.ne_of_lt lt_b111_b116)).ext hm162).exc hx151 (Nat.ne_of_lt (Nat.lt_trans lt_b111_b116 lt_b116_b140))).exc hx155 (Nat.ne_of_lt (Nat.lt_trans lt_b111_b116 (Nat.lt_trans lt_b116_b140 lt_b140_b145)))).ext he160
  have hc161 := hb113.cells (o := 0) (cs := [(bd ((zx / ((Int.gcd zx zy : Nat) : Int)) < 0)), vq104]) rfl
  refine aR 0 rfl (fun u hu => r_loada (o := 0) (cs := [(bd ((zx / ((Int.gcd zx zy : Nat) : Int)) < 0)), vq104]) uT42 ag42 ty42 rfl (fun j v hj => cell_ext hu (hc161 j v hj))) ?_
  replace hb142 := hb142.ext he160
  have hc163 := hb142.cells (o := 0) (cs := [(bd ((zy / ((Int.gcd zx zy : Nat) : Int)) < 0)), vq133]) rfl
  refine aR 2 rfl (fun u hu => r_loada (o := 0) (cs := [(bd ((zy / ((Int.gcd zx zy : Nat) : Int)) < 0)), vq133]) uT42 ag42 ty42 rfl (fun j v hj => cell_ext hu (hc163 j v hj))) ?_
  refine RA.all [1] kR rfl ?_
  replace hq105 := ((((((hq105.tr (Sm.ext (Ext.trans he112 he117))).apn hx122 nb_hx122).apn hx126 nb_hx126).tr (Sm.ext hm162)).apn hx151 nb_hx151).apn hx155 nb_hx155).tr (Sm.ext he160)
  refine RS.call rfl rfl rfl dC (r_call (vl := [(.agg #[(bd ((zx / ((Int.gcd zx zy : Nat) : Int)) < 0)), vq104])]) ent86 rfl) (r02_neg hq105 (digs_lm _) oS (sg_canon _)) ?_ RS.nil
  rintro _ w164 ⟨⟨vr166, rfl, hr167, hl168⟩, he165⟩
  refine rm he165 ?_
  replace hr167 := hr167.fr hE
  replace hE := hE.nx he165
  refine RA.all [3] kR rfl ?_
  replace hq134 := (((hq134.tr (Sm.ext (Ext.trans he141 he146))).apn hx151 nb_hx151).apn hx155 nb_hx155).tr (Sm.ext (Ext.trans he160 he165))
  refine RS.call rfl rfl rfl dC (r_call (vl := [(.agg #[(bd ((zy / ((Int.gcd zx zy : Nat) : Int)) < 0)), vq133])]) ent86 rfl) (r02_neg hq134 (digs_lm _) oS (sg_canon _)) ?_ RS.nil
  rintro _ w169 ⟨⟨vr171, rfl, hr172, hl173⟩, he170⟩
  refine rm he170 ?_
  replace hr172 := hr172.fr hE
  refine RA.all [4] kR rfl ?_
  replace hb113 := hb113.ext (Ext.trans he165 he170)
  refine RS.runs rfl rfl rfl (h_stA (cs := [(bd ((-(zx / ((Int.gcd zx zy : Nat) : Int))) < 0)), vr166]) (o := 0) ty42 rfl rfl rfl rfl (one_cons rfl (one_cons hr167.one one_nil)) hb113 bL) ?_ RS.nil
  rintro w174 ⟨hn175, hx176, hz177⟩
  refine ⟨.inr (.inl kR), ?_⟩
  have nb_hx176 := (Nb.of hb113 (nu_cons rfl (nu_cons hq105.nu nu_nil)))
  replace hb113 : Bk w174 b111 42 [(bd ((-(zx / ((Int.gcd zx zy : Nat) : Int))) < 0)), vr166] := hn175
  refine RA.all [5] kR rfl ?_
  replace hb142 := (hb142.ext (Ext.trans he165 he170)).exc hx176 (Nat.ne_of_gt (Nat.lt_trans lt_b111_b116 lt_b116_b140))
  refine RS.runs rfl rfl rfl (h_stA (cs := [(bd ((-(zy / ((Int.gcd zx zy : Nat) : Int))) < 0)), vr171]) (o := 0) ty42 rfl rfl rfl rfl (one_cons rfl (one_cons hr172.one one_nil)) hb142 bL) ?_ RS.nil
  rintro w178 ⟨hn179, hx180, hz181⟩
  refine ⟨.inr (.inl kR), ?_⟩
  have nb_hx180 := (Nb.of hb142 (nu_cons rfl (nu_cons hq134.nu nu_nil)))
  replace hb142 : Bk w178 b140 42 [(bd ((-(zy / ((Int.gcd zx zy : Nat) : Int))) < 0)), vr171] := hn179
  refine RA.done kR ?_
  refine wsr ?_
  replace hb113 := hb113.exc hx180 (Nat.ne_of_lt (Nat.lt_trans lt_b111_b116 lt_b116_b140))
  have hc182 := hb113.cells (o := 0) (cs := [(bd ((-(zx / ((Int.gcd zx zy : Nat) : Int))) < 0)), vr166]) rfl
  refine rV (r_loada (o := 0) (cs := [(bd ((-(zx / ((Int.gcd zx zy : Nat) : Int))) < 0)), vr166]) uT42 ag42 ty42 rfl hc182) (rV (r_fieldAddr uT42 rfl ty40 rfl) ?_)
  have hc183 := hb142.cell (j := 1) (u := vr171) rfl
  refine rV (r_load uT40 ag40 rfl hc183) (rV (r_build (vl := [(0, (.agg #[(bd ((-(zx / ((Int.gcd zx zy : Nat) : Int))) < 0)), vr166])), (1, vr171)]) (cs := [(bd ((-(zx / ((Int.gcd zx zy : Nat) : Int))) < 0)), vr166, vr171]) uT44 ty44 rfl (pl44 uT44) (by obtain ⟨_, _, e0_, -, -⟩ := hr172.len; simp only [e0_]; rfl)) ?_)
  have hm188 := Ext.trans he160 (Ext.trans he165 he170)
  replace hb14 := ((((((((((hb14.ext (Ext.trans he87 he93)).exc hx98 (Nat.ne_of_lt (Nat.lt_trans lt_b12_b41 lt_b41_b92))).ext hm129).exc hx122 (Nat.ne_of_lt (Nat.lt_trans lt_b12_b41 (Nat.lt_trans lt_b41_b92 lt_b92_b111)))).exc hx126 (Nat.ne_of_lt (Nat.lt_trans lt_b12_b41 (Nat.lt_trans lt_b41_b92 (Nat.lt_trans lt_b92_b111 lt_b111_b116))))).ext hm162).exc hx151 (Nat.ne_of_lt (Nat.lt_trans lt_b12_b41 (Nat.lt_trans lt_b41_b92 (Nat.lt_trans lt_b92_b111 (Nat.lt_trans lt_b111_b116 lt_b116_b140)))))).exc hx155 (Nat.ne_of_lt (Nat.lt_trans lt_b12_b41 (Nat.lt_trans lt_b41_b92 (Nat.lt_trans lt_b92_b111 (Nat.lt_trans lt_b111_b116 (Nat.lt_trans lt_b116_b140 lt_b140_b145))))))).ext hm188).exc hx176 (Nat.ne_of_lt (Nat.lt_trans lt_b12_b41 (Nat.lt_trans lt_b41_b92 lt_b92_b111)))).exc hx180 (Nat.ne_of_lt (Nat.lt_trans lt_b12_b41 (Nat.lt_trans lt_b41_b92 (Nat.lt_trans lt_b92_b111 (Nat.lt_trans lt_b111_b116 lt_b116_b140)))))
  refine RL.runs rfl rfl (h_stA (cs := [(bd ((-(zx / ((Int.gcd zx zy : Nat) : Int))) < 0)), vr166, vr171]) (o := 0) ty44 ((G68 4 rfl).trans (hF50 4)) rfl rfl rfl (one_cons rfl (one_cons hr167.one (one_cons hr172.one one_nil))) hb14 bL) ?_
  rintro w184 ⟨hn185, hx186, hz187⟩
  replace hE := (((hE.nx he170).nb hx176 ge_b111).nb hx180 ge_b140).nb hx186 ge_b12
  have nb_hx186 := (Nb.of hb14 (nu_cons rfl (nu_cons rfl (nu_cons rfl nu_nil))))
  replace hb14 : Bk w184 b12 44 [(bd ((-(zx / ((Int.gcd zx zy : Nat) : Int))) < 0)), vr166, vr171] := hn185
  refine RL.nil ?_
  refine wret ?_
  refine ⟨[(.agg #[(bd ((-(zx / ((Int.gcd zx zy : Nat) : Int))) < 0)), vr166, vr171])], ⟨⟨_, _, [(bd ((-(zx / ((Int.gcd zx zy : Nat) : Int))) < 0)), vr166, vr171], ((G68 4 rfl).trans (hF50 4)), ⟨_, uT44⟩, hb14.cells rfl, .inl ⟨ag44, ⟨_, _, ty44⟩, rfl⟩⟩, trivial⟩, ?_⟩
  have e1 : (Rat.divInt zx zy).num = (-(zx / ((Int.gcd zx zy : Nat) : Int))) ∧ (Rat.divInt zx zy).den = (-(zy / ((Int.gcd zx zy : Nat) : Int))).natAbs := by
    first | (rw [hy1]; exact divInt_one zx) | exact hlaw.1 hd | exact hlaw.2 hd
  have hl1 := rl_num (a := zx) (b := zy)
  have hl2 := rl_den (a := zx) (b := zy)
  replace hr167 := (((hr167.tr (Sm.ext he170)).apn hx176 nb_hx176).apn hx180 nb_hx180).apn hx186 nb_hx186
  replace hr172 := ((hr172.apn hx176 nb_hx176).apn hx180 nb_hx180).apn hx186 nb_hx186
  exact ⟨⟨_, _, agg3 (by rw [e1.1]), by rw [e1.1]; exact hr167, by rw [e1.2]; exact hr172, by omega, by omega⟩, hE⟩
 have hd := hb158p
 refine wskip ?_
 refine wsr ?_
 have hm190 := Ext.trans he132 (Ext.trans he141 he146)
 replace hb113 := (((hb113.exc hx126 (Nat.ne_of_lt lt_b111_b116)).ext hm190).exc hx151 (Nat.ne_of_lt (Nat.lt_trans lt_b111_b116 lt_b116_b140))).exc hx155 (Nat.ne_of_lt (Nat.lt_trans lt_b111_b116 (Nat.lt_trans lt_b116_b140 lt_b140_b145)))
 have hc189 := hb113.cells (o := 0) (cs := [(bd ((zx / ((Int.gcd zx zy : Nat) : Int)) < 0)), vq104]) rfl
 refine rV (r_loada (o := 0) (cs := [(bd ((zx / ((Int.gcd zx zy : Nat) : Int)) < 0)), vq104]) uT42 ag42 ty42 rfl hc189) (rV (r_fieldAddr uT42 rfl ty40 rfl) ?_)
 have hc191 := hb142.cell (j := 1) (u := vq133) rfl
 refine rV (r_load uT40 ag40 rfl hc191) (rV (r_build (vl := [(0, (.agg #[(bd ((zx / ((Int.gcd zx zy : Nat) : Int)) < 0)), vq104])), (1, vq133)]) (cs := [(bd ((zx / ((Int.gcd zx zy : Nat) : Int)) < 0)), vq104, vq133]) uT44 ty44 rfl (pl44 uT44) (by obtain ⟨_, _, e0_, -, -⟩ := hq134.len; simp only [e0_]; rfl)) ?_)
 replace hb14 := (((((((hb14.ext (Ext.trans he87 he93)).exc hx98 (Nat.ne_of_lt (Nat.lt_trans lt_b12_b41 lt_b41_b92))).ext hm129).exc hx122 (Nat.ne_of_lt (Nat.lt_trans lt_b12_b41 (Nat.lt_trans lt_b41_b92 lt_b92_b111)))).exc hx126 (Nat.ne_of_lt (Nat.lt_trans lt_b12_b41 (Nat.lt_trans lt_b41_b92 (Nat.lt_trans lt_b92_b111 lt_b111_b116))))).ext hm190).exc hx151 (Nat.ne_of_lt (Nat.lt_trans lt_b12_b41 (Nat.lt_trans lt_b41_b92 (Nat.lt_trans lt_b92_b111 (Nat.lt_trans lt_b111_b116 lt_b116_b140)))))).exc hx155 (Nat.ne_of_lt (Nat.lt_trans lt_b12_b41 (Nat.lt_trans lt_b41_b92 (Nat.lt_trans lt_b92_b111 (Nat.lt_trans lt_b111_b116 (Nat.lt_trans lt_b116_b140 lt_b140_b145))))))
 refine RL.runs rfl rfl (h_stA (cs := [(bd ((zx / ((Int.gcd zx zy : Nat) : Int)) < 0)), vq104, vq133]) (o := 0) ty44 ((G68 4 rfl).trans (hF50 4)) rfl rfl rfl (one_cons rfl (one_cons hq105.one (one_cons hq134.one one_nil))) hb14 bL) ?_
 rintro w192 ⟨hn193, hx194, hz195⟩
 replace hE := hE.nb hx194 ge_b12
 have nb_hx194 := (Nb.of hb14 (nu_cons rfl (nu_cons rfl (nu_cons rfl nu_nil))))
 replace hb14 : Bk w192 b12 44 [(bd ((zx / ((Int.gcd zx zy : Nat) : Int)) < 0)), vq104, vq133] := hn193
 refine RL.nil ?_
 refine wret ?_
 refine ⟨[(.agg #[(bd ((zx / ((Int.gcd zx zy : Nat) : Int)) < 0)), vq104, vq133])], ⟨⟨_, _, [(bd ((zx / ((Int.gcd zx zy : Nat) : Int)) < 0)), vq104, vq133], ((G68 4 rfl).trans (hF50 4)), ⟨_, uT44⟩, hb14.cells rfl, .inl ⟨ag44, ⟨_, _, ty44⟩, rfl⟩⟩, trivial⟩, ?_⟩
 have e1 : (Rat.divInt zx zy).num = (zx / ((Int.gcd zx zy : Nat) : Int)) ∧ (Rat.divInt zx zy).den = (zy / ((Int.gcd zx zy : Nat) : Int)).natAbs := by
   first | (rw [hy1]; exact divInt_one zx) | exact hlaw.1 hd | exact hlaw.2 hd
 have hl1 := rl_num (a := zx) (b := zy)
 have hl2 := rl_den (a := zx) (b := zy)
 replace hq105 := ((((((hq105.tr (Sm.ext (Ext.trans he112 he117))).apn hx122 nb_hx122).apn hx126 nb_hx126).tr (Sm.ext hm190)).apn hx151 nb_hx151).apn hx155 nb_hx155).apn hx194 nb_hx194
 replace hq134 := (((hq134.tr (Sm.ext (Ext.trans he141 he146))).apn hx151 nb_hx151).apn hx155 nb_hx155).apn hx194 nb_hx194
 exact ⟨⟨_, _, agg3 (by rw [e1.1]), by rw [e1.1]; exact hq105, by rw [e1.2]; exact hq134, by omega, by omega⟩, hE⟩
set_option maxHeartbeats 1000000 in
theorem r03_norm {w : World} {sx : Bool} {Dx Ex : Nat → TypeId → Prop} {vx ux : Value} {x dx : List Nat} (hx : Sg (gN .u32) Dx w vx x) (lmx : Lm x) (lnx : x.length ≤ 17179869184) (hdx : Sg (gN .u32) Ex w ux dx) (lmdx : Lm dx) (lndx : dx.length ≤ 17179869184) {qx : Rat} (ex : ratOf sx (val x) (val dx) = qx) :
    Calls Tryz.prog 48 #[(.agg #[(.bool sx), vx, ux])] w fun e w' => ∃ v, e = .returned v ∧ (∃ vn vd, v = .agg #[.bool (decide (qx.num < 0)), vn, vd] ∧ Sg (gN .u32) (fun b T => w.heap.size ≤ b ∧ T = 89) w' vn (digs qx.num.natAbs) ∧ Sg (gN .u32) (fun b T => w.heap.size ≤ b ∧ T = 89) w' vd (digs qx.den) ∧ (digs qx.num.natAbs).length ≤ x.length ∧ (digs qx.den).length ≤ dx.length + 1) ∧ Ext w w' := by
 have hE : Below w.heap.size w w := Below.refl _ _
 have hlqx := rl_of lmx lmdx ex
 have hdqx := den_one qx
 refine calls_of (n := 9) (rs := [.cell 2 44]) func48 rfl rfl rfl bL ?_
 refine wset fun F0 hF0 => ?_
 refine wsr ?_
 refine rU (h_bxA (cs := [(.bool sx), vx, ux]) (hF0 0) rfl) ?_
 rintro _ w1 ⟨b2, rfl, hs5, hb4, he3⟩
 have ge_b2 := hE.ge hs5
 replace hE := hE.nx he3
 refine rU (h_alloc (cs := [(.bool false), (.slice none 0 0), (.slice none 0 0)]) ty44 rfl) ?_
 rintro _ w6 ⟨b7, rfl, hs10, hb9, he8⟩
 have lt_b2_b7 := Nat.lt_of_lt_of_eq hb4.lt hs10.symm
 have ge_b7 := hE.ge hs10
 replace hE := hE.nx he8
 refine RL.nil (wsr (rV (r_fieldAddr uT44 rfl ty42 rfl) ?_))
 replace hb4 := hb4.ext he8
 have hc11 := hb4.cells (o := 0) (cs := [(.bool sx), vx]) rfl
 refine rV (r_loada (o := 0) (cs := [(.bool sx), vx]) uT42 ag42 ty42 rfl hc11) (rV (r_fieldAddr uT44 rfl ty40 rfl) ?_)
 have hc12 := hb4.cell (j := 2) (u := ux) rfl
 refine rV (r_load uT40 ag40 rfl hc12) (rV (r_build (vl := [(1, ux)]) (cs := [(.bool false), ux]) uT42 ty42 rfl (pl42 uT42) (by obtain ⟨_, _, e0_, -, -⟩ := hdx.len; simp only [e0_]; rfl)) ?_)
 replace hx := hx.tr (Sm.ext (Ext.trans he3 he8))
 replace hdx := hdx.tr (Sm.ext (Ext.trans he3 he8))
 refine RL.call rfl rfl dC (r_call (vl := [(.agg #[(.bool sx), vx]), (.agg #[(.bool false), ux])]) ent55 rfl) (r03_make hx (by assumption) oS rfl hdx (by assumption) oS rfl) ?_
 rintro _ w13 ⟨⟨vn15, vd17, rfl, hn16, hd18, hl19, hl20⟩, he14⟩
 have hlv21 := den_one (Rat.divInt (sg sx (val x)) (sg false (val dx)))
 replace hn16 := hn16.fr hE
 replace hd18 := hd18.fr hE
 replace hb9 := hb9.ext he14
 refine RL.runs rfl rfl (h_stA (cs := [(bd ((Rat.divInt (sg sx (val x)) (sg false (val dx))).num < 0)), vn15, vd17]) (o := 0) ty44 rfl rfl rfl rfl (one_cons rfl (one_cons hn16.one (one_cons hd18.one one_nil))) hb9 bL) ?_
 rintro w22 ⟨hn23, hx24, hz25⟩
 replace hE := (hE.nx he14).nb hx24 ge_b7
 have nb_hx24 := (Nb.of hb9 (nu_cons rfl (nu_cons rfl (nu_cons rfl nu_nil))))
 replace hb9 : Bk w22 b7 44 [(bd ((Rat.divInt (sg sx (val x)) (sg false (val dx))).num < 0)), vn15, vd17] := hn23
 refine RL.nil ?_
 refine wret ?_
 refine ⟨[(.agg #[(bd ((Rat.divInt (sg sx (val x)) (sg false (val dx))).num < 0)), vn15, vd17])], ⟨⟨_, _, [(bd ((Rat.divInt (sg sx (val x)) (sg false (val dx))).num < 0)), vn15, vd17], rfl, ⟨_, uT44⟩, hb9.cells rfl, .inl ⟨ag44, ⟨_, _, ty44⟩, rfl⟩⟩, trivial⟩, ?_⟩
 have hq : (Rat.divInt (sg sx (val x)) (sg false (val dx))) = qx := ex
 rw [← hq]
 replace hn16 := hn16.apn hx24 nb_hx24
 replace hd18 := hd18.apn hx24 nb_hx24
 exact ⟨⟨_, _, rfl, hn16, hd18, by omega, by omega⟩, hE⟩
set_option maxHeartbeats 1000000 in
theorem r03_den {w : World} {sx : Bool} {Dx Ex : Nat → TypeId → Prop} {vx ux : Value} {x dx : List Nat} (hx : Sg (gN .u32) Dx w vx x) (lmx : Lm x) (lnx : x.length ≤ 17179869184) (hdx : Sg (gN .u32) Ex w ux dx) (lmdx : Lm dx) (lndx : dx.length ≤ 17179869184) {qx : Rat} (ex : ratOf sx (val x) (val dx) = qx) :
    Calls Tryz.prog 97 #[(.agg #[(.bool sx), vx, ux])] w fun e w' => ∃ v, e = .returned v ∧ (∃ vr, v = .agg #[.bool (decide (((qx.den : Nat) : Int) < 0)), vr] ∧ Sg (gN .u32) (fun b T => w.heap.size ≤ b ∧ T = 89) w' vr (digs ((qx.den : Nat) : Int).natAbs) ∧ (digs ((qx.den : Nat) : Int).natAbs).length ≤ dx.length + 1) ∧ Ext w w' := by
 have hE : Below w.heap.size w w := Below.refl _ _
 have hlqx := rl_of lmx lmdx ex
 have hdqx := den_one qx
 refine calls_of (n := 7) (rs := [.cell 2 42]) func97 rfl rfl rfl bL ?_
 refine wset fun F0 hF0 => ?_
 refine wsr ?_
 refine rU (h_bxA (cs := [(.bool sx), vx, ux]) (hF0 0) rfl) ?_
 rintro _ w1 ⟨b2, rfl, hs5, hb4, he3⟩
 have ge_b2 := hE.ge hs5
 replace hE := hE.nx he3
 refine rU (h_alloc (cs := [(.bool false), (.slice none 0 0)]) ty42 rfl) ?_
 rintro _ w6 ⟨b7, rfl, hs10, hb9, he8⟩
 have lt_b2_b7 := Nat.lt_of_lt_of_eq hb4.lt hs10.symm
 have ge_b7 := hE.ge hs10
 replace hE := hE.nx he8
 refine RL.nil (wsr ?_)
 replace hb4 := hb4.ext he8
 have hc11 := hb4.cells (o := 0) (cs := [(.bool sx), vx, ux]) rfl
 refine rV (r_loada (o := 0) (cs := [(.bool sx), vx, ux]) uT44 ag44 ty44 rfl hc11) ?_
 replace hx := hx.tr (Sm.ext (Ext.trans he3 he8))
 replace hdx := hdx.tr (Sm.ext (Ext.trans he3 he8))
 refine RL.call rfl rfl dC (r_call (vl := [(.agg #[(.bool sx), vx, ux])]) ent48 rfl) (r03_norm hx (by assumption) oS hdx (by assumption) oS (show ratOf sx (val x) (val dx) = qx from ex)) ?_
 rintro _ w12 ⟨⟨vn14, vd16, rfl, hn15, hd17, hl18, hl19⟩, he13⟩
 have hlv20 := den_one qx
 replace hn15 := hn15.fr hE
 replace hd17 := hd17.fr hE
 refine rV (r_field (v := vd16) uT44 rfl uT40 ag40 rfl rfl) (rV (r_build (vl := [(1, vd16)]) (cs := [(.bool false), vd16]) uT42 ty42 rfl (pl42 uT42) (by obtain ⟨_, _, e0_, -, -⟩ := hd17.len; simp only [e0_]; rfl)) ?_)
 replace hb9 := hb9.ext he13
 refine RL.runs rfl rfl (h_stA (cs := [(.bool false), vd16]) (o := 0) ty42 rfl rfl rfl rfl (one_cons rfl (one_cons hd17.one one_nil)) hb9 bL) ?_
 rintro w21 ⟨hn22, hx23, hz24⟩
 replace hE := (hE.nx he13).nb hx23 ge_b7
 have nb_hx23 := (Nb.of hb9 (nu_cons rfl (nu_cons rfl nu_nil)))
 replace hb9 : Bk w21 b7 42 [(.bool false), vd16] := hn22
 refine RL.nil ?_
 refine wret ?_
 refine ⟨[(.agg #[(.bool false), vd16])], ⟨⟨_, _, [(.bool false), vd16], rfl, ⟨_, uT42⟩, hb9.cells rfl, .inl ⟨ag42, ⟨_, _, ty42⟩, rfl⟩⟩, trivial⟩, ?_⟩
 replace hd17 := hd17.apn hx23 nb_hx23
 exact ⟨⟨_, agg2 (decide_eq_false oM).symm, by rw [Int.natAbs_natCast]; exact hd17, by rw [Int.natAbs_natCast]; omega⟩, hE⟩
set_option maxHeartbeats 1000000 in
theorem r03_from {w : World} {k : Int} (hk : -9223372036854775808 ≤ k ∧ k ≤ 9223372036854775807) :
    Calls Tryz.prog 36 #[(iv k)] w fun e w' => ∃ v, e = .returned v ∧ (∃ vn vd, v = .agg #[.bool (decide (((k : Int) : Rat).num < 0)), vn, vd] ∧ Sg (gN .u32) (fun b T => w.heap.size ≤ b ∧ T = 89) w' vn (digs ((k : Int) : Rat).num.natAbs) ∧ Sg (gN .u32) (fun b T => w.heap.size ≤ b ∧ T = 89) w' vd (digs ((k : Int) : Rat).den) ∧ (digs ((k : Int) : Rat).num.natAbs).length ≤ 2 ∧ (digs ((k : Int) : Rat).den).length ≤ 3) ∧ Ext w w' := by
 have hE : Below w.heap.size w w := Below.refl _ _
 refine calls_of (n := 7) (rs := [.cell 2 44]) func36 rfl rfl rfl bL ?_
 refine wset fun F0 hF0 => ?_
 refine wsr ?_
 refine rU (h_alloc (cs := [(.bool false), (.slice none 0 0), (.slice none 0 0)]) ty44 rfl) ?_
 rintro _ w1 ⟨b2, rfl, hs5, hb4, he3⟩
 have ge_b2 := hE.ge hs5
 replace hE := hE.nx he3
 refine RL.nil (wsr (mV (v := (iv k)) (hF0 0) ?_))
 refine cL ent56 (r02_from oM) rfl ?_
 rintro _ w6 ⟨⟨vr8, rfl, hr9, hl10⟩, he7⟩
 replace hr9 := hr9.fr hE
 replace hE := hE.nx he7
 refine cL ent56 (r02_from oM) rfl ?_
 rintro _ w11 ⟨⟨vr13, rfl, hr14, hl15⟩, he12⟩
 replace hr14 := hr14.fr hE
 replace hE := hE.nx he12
 replace hr9 := hr9.tr (Sm.ext he12)
 refine RL.call rfl rfl dC (r_call (vl := [(.agg #[(bd (k < 0)), vr8]), (.agg #[(bd (1 < 0)), vr13])]) ent55 rfl) (r03_make hr9 (digs_lm _) oS (sg_canon _) hr14 (digs_lm _) oS (sg_canon _)) ?_
 rintro _ w16 ⟨⟨vn18, vd20, rfl, hn19, hd21, hl22, hl23⟩, he17⟩
 have hlv24 := den_one (Rat.divInt k 1)
 replace hn19 := hn19.fr hE
 replace hd21 := hd21.fr hE
 have hm29 := Ext.trans he7 (Ext.trans he12 he17)
 replace hb4 := hb4.ext hm29
 refine RL.runs rfl rfl (h_stA (cs := [(bd ((Rat.divInt k 1).num < 0)), vn18, vd20]) (o := 0) ty44 rfl rfl rfl rfl (one_cons rfl (one_cons hn19.one (one_cons hd21.one one_nil))) hb4 bL) ?_
 rintro w25 ⟨hn26, hx27, hz28⟩
 replace hE := (hE.nx he17).nb hx27 ge_b2
 have nb_hx27 := (Nb.of hb4 (nu_cons rfl (nu_cons rfl (nu_cons rfl nu_nil))))
 replace hb4 : Bk w25 b2 44 [(bd ((Rat.divInt k 1).num < 0)), vn18, vd20] := hn26
 refine RL.nil ?_
 refine wret ?_
 refine ⟨[(.agg #[(bd ((Rat.divInt k 1).num < 0)), vn18, vd20])], ⟨⟨_, _, [(bd ((Rat.divInt k 1).num < 0)), vn18, vd20], rfl, ⟨_, uT44⟩, hb4.cells rfl, .inl ⟨ag44, ⟨_, _, ty44⟩, rfl⟩⟩, trivial⟩, ?_⟩
 have hq : (Rat.divInt k 1) = ((k : Int) : Rat) := int_law k
 rw [← hq]
 replace hn19 := hn19.apn hx27 nb_hx27
 replace hd21 := hd21.apn hx27 nb_hx27
 exact ⟨⟨_, _, rfl, hn19, hd21, by omega, by omega⟩, hE⟩
set_option maxHeartbeats 1000000 in
theorem r03_sign {w : World} {sx : Bool} {Dx Ex : Nat → TypeId → Prop} {vx ux : Value} {x dx : List Nat} (hx : Sg (gN .u32) Dx w vx x) (lmx : Lm x) (lnx : x.length ≤ 17179869184) (hdx : Sg (gN .u32) Ex w ux dx) (lmdx : Lm dx) (lndx : dx.length ≤ 17179869184) {qx : Rat} (ex : ratOf sx (val x) (val dx) = qx) :
    Calls Tryz.prog 54 #[(.agg #[(.bool sx), vx, ux])] w fun e w' => ∃ v, e = .returned v ∧ v = .int .i64 (Int.sign qx.num) ∧ Ext w w' := by
 have hE : Below w.heap.size w w := Below.refl _ _
 have hlqx := rl_of lmx lmdx ex
 have hdqx := den_one qx
 refine calls_of (n := 7) (rs := [.tmp 2]) func54 rfl rfl rfl bL ?_
 refine wset fun F0 hF0 => ?_
 refine wsr ?_
 refine rU (h_bxA (cs := [(.bool sx), vx, ux]) (hF0 0) rfl) ?_
 rintro _ w1 ⟨b2, rfl, hs5, hb4, he3⟩
 have ge_b2 := hE.ge hs5
 replace hE := hE.nx he3
 refine aS (v := (iv 0)) rfl (RL.nil (wsr ?_))
 have hc6 := hb4.cells (o := 0) (cs := [(.bool sx), vx, ux]) rfl
 refine rV (r_loada (o := 0) (cs := [(.bool sx), vx, ux]) uT44 ag44 ty44 rfl hc6) ?_
 replace hx := hx.tr (Sm.ext he3)
 replace hdx := hdx.tr (Sm.ext he3)
 refine RL.call rfl rfl dC (r_call (vl := [(.agg #[(.bool sx), vx, ux])]) ent48 rfl) (r03_norm hx (by assumption) oS hdx (by assumption) oS (show ratOf sx (val x) (val dx) = qx from ex)) ?_
 rintro _ w7 ⟨⟨vn9, vd11, rfl, hn10, hd12, hl13, hl14⟩, he8⟩
 have hlv15 := den_one qx
 replace hn10 := hn10.fr hE
 replace hd12 := hd12.fr hE
 refine rV (r_fielda uT44 rfl uT42 ag42 ty42 rfl) ?_
 refine RL.call rfl rfl dC (r_call (vl := [(.agg #[(bd (qx.num < 0)), vn9])]) ent82 rfl) (r02_sign hn10 (digs_lm _) oS (sg_canon _)) ?_
 rintro _ w16 ⟨rfl, he17⟩
 replace hE := (hE.nx he8).nx he17
 refine aS (v := (iv (Int.sign qx.num))) rfl (RL.nil ?_)
 refine wret ?_
 refine ⟨[(iv (Int.sign qx.num))], ⟨rfl, trivial⟩, ?_⟩
 exact ⟨rfl, hE⟩
end Go.Proofs.YtelbjmhhbeijkaaGreat
namespace Go.Proofs.YtelbjmhhbeijkaaGreat
open Go.Vg Go.RowKit _root_.Go.Proofs.Tryz
set_option linter.unusedVariables false
open Go.Vm
set_option maxHeartbeats 1000000 in
theorem q_parts {w : World} {sx : Bool} {Dx Ex : Nat → TypeId → Prop} {vx ux : Value} {x dx : List Nat} (hx : Sg (gN .u32) Dx w vx x) (lmx : Lm x) (lnx : x.length ≤ 68719476736) (hdx : Sg (gN .u32) Ex w ux dx) (lmdx : Lm dx) (lndx : dx.length ≤ 68719476736) {qx : Rat} (ex : ratOf sx (val x) (val dx) = qx) :
    Calls Tryz.prog 57 #[(.agg #[(.bool sx), vx, ux])] w fun e w' => ∃ v, e = .returned v ∧ (∃ s' vn vd xn xd, v = .tuple #[.agg #[.bool s', vn], vd] ∧ Sg (gN .u32) (fun _ _ => True) w' vn xn ∧ Lm xn ∧ xn.length ≤ x.length ∧ Sg (gN .u32) (fun _ _ => True) w' vd xd ∧ Lm xd ∧ xd.length ≤ dx.length + 1 ∧ val xd ≠ 0 ∧ ratOf s' (val xn) (val xd) = qx) ∧ Ext w w' := by
 have hE : Below w.heap.size w w := Below.refl _ _
 have hlqx := rl_of lmx lmdx ex
 have hdqx := den_one qx
 refine calls_of (n := 14) (rs := [.cell 2 42, .tmp 3]) func57 rfl rfl rfl bL ?_
 refine wset fun F0 hF0 => ?_
 refine wsr ?_
 refine rU (h_bxA (cs := [(.bool sx), vx, ux]) (hF0 0) rfl) ?_
 rintro _ w1 ⟨b2, rfl, hs5, hb4, he3⟩
 have ge_b2 := hE.ge hs5
 replace hE := hE.nx he3
 refine rU (h_alloc (cs := [(.bool false), (.slice none 0 0)]) ty42 rfl) ?_
 rintro _ w6 ⟨b7, rfl, hs10, hb9, he8⟩
 have lt_b2_b7 := Nat.lt_of_lt_of_eq hb4.lt hs10.symm
 have ge_b7 := hE.ge hs10
 refine aS (v := (.slice none (0) (0))) rfl (RL.nil (wseq (wsr (rV (r_fieldAddr uT44 rfl ty40 rfl) ?_))))
 replace hb4 := hb4.ext he8
 have hc11 := hb4.cell (j := 2) (u := ux) rfl
 refine rV (r_load uT40 ag40 rfl hc11) ?_
 replace hdx := hdx.tr (Sm.ext (Ext.trans he3 he8))
 refine cL ent67 (n_compare hdx (by assumption) oS (Sg.nil (g := gN .u32) (D := (fun b T => w.heap.size ≤ b ∧ T = 89))) Lm.nil oS) rfl ?_
 rintro vq15 w12 ⟨hq14, he13⟩
 subst hq14
 replace hE := (hE.nx he8).nx he13
 refine rV (r_eql (k := .i64) (a := cmpI (((val dx) : Nat) : Int) (((val ([])) : Nat) : Int)) (b := 0) rfl rfl) (RL.nil ?_)
 refine wcD (p := (cmpI (((val dx) : Nat) : Int) (((val ([])) : Nat) : Int)) = 0) rfl (fun hb16 hb16p => ?_) (fun hb16 hb16p => ?_)
 ·have hz : val dx = 0 := by have h9 := cmpI_zero.1 hb16p; have h8 : val [] = 0 := rfl; omega
  refine wsr (rV (r_build (vl := []) (cs := [(.bool false), (.slice none 0 0)]) uT42 ty42 rfl (pl42 uT42) rfl) ?_)
  refine rU (h_lit (vl := [(0, (.int .u32 1))]) (cs := [(.int .u32 1)]) uT40 ty89 rfl dC (by first | (simp [Instr.fill, Value.cells]; done) | rfl | kernel_rfl)) ?_
  rintro _ w17 ⟨b18, rfl, hs21, hb20, he19⟩
  replace hb9 := hb9.ext he13
  have lt_b7_b18 := Nat.lt_of_lt_of_eq hb9.lt hs21.symm
  have ge_b18 := hE.ge hs21
  replace hb9 := hb9.ext he19
  refine RL.runs rfl rfl (h_stA (cs := [(.bool false), (.slice none 0 0)]) (o := 0) ty42 rfl rfl rfl rfl (one_cons rfl (one_cons rfl one_nil)) hb9 bL) ?_
  rintro w22 ⟨hn23, hx24, hz25⟩
  replace hE := (hE.nx he19).nb hx24 ge_b7
  replace hb9 : Bk w22 b7 42 [(.bool false), (.slice none 0 0)] := hn23
  refine aS (v := (.slice (some ⟨b18, 0, none⟩) (1) (1))) rfl (RL.nil ?_)
  refine wret ?_
  refine ⟨[(.agg #[(.bool false), (.slice none 0 0)]), (.slice (some ⟨b18, 0, none⟩) (1) (1))], ⟨⟨_, _, [(.bool false), (.slice none 0 0)], rfl, ⟨_, uT42⟩, hb9.cells rfl, .inl ⟨ag42, ⟨_, _, ty42⟩, rfl⟩⟩, ⟨rfl, trivial⟩⟩, ?_⟩
  replace hb20 := hb20.exc hx24 (Nat.ne_of_gt lt_b7_b18)
  exact ⟨⟨_, _, _, [], [1], rfl, Sg.nil, Lm.nil, Nat.zero_le _, hb20.sg (g := gN .u32) (D := (fun _ _ => True)) (xs := [1]) trivial rfl rfl dC, (by intro z hz; simp at hz; omega), by simp, by decide, by rw [← ex, hz, ratOf_den0]; rfl⟩, hE⟩
 have hz : val dx ≠ 0 := fun h => hb16p (cmpI_zero.2 (by rw [h]; rfl))
 refine wskip ?_
 refine wseq ?_
 refine wdrawT (fun u => Bk u b2 44 [(.bool sx), vx, ux]) mixed fun w26 he27 => ?_
 refine ra 0 rfl (fun _ => r_fieldAddr uT44 rfl ty42 rfl) ?_
 replace hb4 := hb4.ext (Ext.trans he13 he27)
 refine RA.rd 1 rfl kR rfl rfl rfl dC hb4 (fun u hu => r_loada (o := 0) (cs := [(.bool sx), vx]) uT42 ag42 ty42 rfl (hu.cells (o := 0) (cs := [(.bool sx), vx]) rfl)) ?_
 refine ra 2 rfl (fun _ => r_fieldAddr uT44 rfl ty40 rfl) ?_
 refine RA.rd 3 rfl kR rfl rfl rfl dC hb4 (fun u hu => r_load uT40 ag40 rfl (hu.cell (j := 2) (u := ux) rfl)) ?_
 refine RA.all [4] kR rfl ?_
 replace hb9 := hb9.ext (Ext.trans he13 he27)
 refine RS.runs rfl rfl rfl (h_stA (cs := [(.bool sx), vx]) (o := 0) ty42 rfl rfl rfl rfl (one_cons rfl (one_cons hx.one one_nil)) hb9 bL) ?_ RS.nil
 rintro w30 ⟨hn31, hx32, hz33⟩
 replace hE := (hE.nx he27).nb hx32 ge_b7
 have nb_hx32 := (Nb.of hb9 (nu_cons rfl (nu_cons rfl nu_nil)))
 replace hb9 : Bk w30 b7 42 [(.bool sx), vx] := hn31
 replace hb4 := hb4.exc hx32 (Nat.ne_of_lt lt_b2_b7)
 refine ⟨.inr (.inr hb4), ?_⟩
 refine aA 5 rfl (v := ux) rfl ?_
 refine RA.done kR ?_
 refine wret ?_
 refine ⟨[(.agg #[(.bool sx), vx]), ux], ⟨⟨_, _, [(.bool sx), vx], rfl, ⟨_, uT42⟩, hb9.cells rfl, .inl ⟨ag42, ⟨_, _, ty42⟩, rfl⟩⟩, ⟨rfl, trivial⟩⟩, ?_⟩
 have hm34 := Ext.trans he3 (Ext.trans he8 (Ext.trans he13 he27))
 replace hx := (hx.tr (Sm.ext hm34)).apn hx32 nb_hx32
 replace hdx := (hdx.tr (Sm.ext (Ext.trans he13 he27))).apn hx32 nb_hx32
 exact ⟨⟨_, _, _, _, _, rfl, hx.mono (fun _ _ _ => trivial), lmx, Nat.le_refl _, hdx.mono (fun _ _ _ => trivial), lmdx, Nat.le_succ _, hz, ex⟩, hE⟩
set_option maxHeartbeats 1000000 in
theorem q_lowest {w : World} {sx : Bool} {Dx : Nat → TypeId → Prop} {vx : Value} {x : List Nat} (hx : Sg (gN .u32) Dx w vx x) (lmx : Lm x) (lnx : x.length ≤ 137438953472) {zx : Int} (ex : sg sx (val x) = zx) {Dd : Nat → TypeId → Prop} {vd : Value} {d : List Nat} (hd : Sg (gN .u32) Dd w vd d) (lmd : Lm d) (lnd : d.length ≤ 137438953472) (hnz : val d ≠ 0) :
    Calls Tryz.prog 61 #[(.agg #[(.bool sx), vx]), vd] w fun e w' => ∃ v, e = .returned v ∧ (∃ vn vd, v = .agg #[.bool (decide ((Rat.divInt zx ((val d : Nat) : Int)).num < 0)), vn, vd] ∧ Sg (gN .u32) (fun b T => w.heap.size ≤ b ∧ T = 89) w' vn (digs (Rat.divInt zx ((val d : Nat) : Int)).num.natAbs) ∧ Sg (gN .u32) (fun b T => w.heap.size ≤ b ∧ T = 89) w' vd (digs (Rat.divInt zx ((val d : Nat) : Int)).den) ∧ (digs (Rat.divInt zx ((val d : Nat) : Int)).num.natAbs).length ≤ x.length ∧ (digs (Rat.divInt zx ((val d : Nat) : Int)).den).length ≤ d.length + 1) ∧ Ext w w' := by
 have hE : Below w.heap.size w w := Below.refl _ _
 have hlzx := il_le lmx ex
 have hlvd := dl_val lmd
 refine calls_of (n := 48) (rs := [.cell 4 44]) func61 rfl rfl rfl bL ?_
 refine wset fun F0 hF0 => ?_
 refine wsr ?_
 refine rU (h_bxA (cs := [(.bool sx), vx]) (hF0 0) rfl) ?_
 rintro _ w1 ⟨b2, rfl, hs5, hb4, he3⟩
 have ge_b2 := hE.ge hs5
 replace hE := hE.nx he3
 refine rU (h_alloc (cs := [(.bool false), (.slice none 0 0), (.slice none 0 0)]) ty44 rfl) ?_
 rintro _ w6 ⟨b7, rfl, hs10, hb9, he8⟩
 have lt_b2_b7 := Nat.lt_of_lt_of_eq hb4.lt hs10.symm
 have ge_b7 := hE.ge hs10
 replace hE := hE.nx he8
 refine RL.nil (wsr ?_)
 replace hb4 := hb4.ext he8
 have hc11 := hb4.cells (o := 0) (cs := [(.bool sx), vx]) rfl
 refine rV (r_loada (o := 0) (cs := [(.bool sx), vx]) uT42 ag42 ty42 rfl hc11) ?_
 replace hx := hx.tr (Sm.ext (Ext.trans he3 he8))
 refine RL.call rfl rfl dC (r_call (vl := [(.agg #[(.bool sx), vx])]) ent91 rfl) (i_norm hx (by assumption) oS (show sg sx (val x) = zx from ex)) ?_
 rintro _ w12 ⟨⟨vr14, rfl, hr15, hl16⟩, he13⟩
 replace hr15 := hr15.fr hE
 replace hE := hE.nx he13
 refine mV (v := vd) (hF0 1) ?_
 have hm21 := Ext.trans he3 (Ext.trans he8 he13)
 replace hd := hd.tr (Sm.ext hm21)
 refine cL ent92 (n_trim hd (by assumption) oS) rfl ?_
 rintro vr19 w17 ⟨hr20, he18⟩
 replace hr20 := hr20.fr hE
 have hlt22 : (digs (val d)).length ≤ d.length := len_le_of (by assumption)
 replace hb4 := hb4.ext (Ext.trans he13 he18)
 refine RL.runs rfl rfl (h_stA (cs := [(bd (zx < 0)), vr14]) (o := 0) ty42 rfl rfl rfl rfl (one_cons rfl (one_cons hr15.one one_nil)) hb4 bL) ?_
 rintro w23 ⟨hn24, hx25, hz26⟩
 replace hE := (hE.nx he18).nb hx25 ge_b2
 have nb_hx25 := (Nb.of hb4 (nu_cons rfl (nu_cons hx.nu nu_nil)))
 replace hb4 : Bk w23 b2 42 [(bd (zx < 0)), vr14] := hn24
 refine aS (v := vr19) rfl (RL.nil (wseq (wsr (rV (r_fieldAddr uT42 rfl ty40 rfl) ?_))))
 have hc27 := hb4.cell (j := 1) (u := vr14) rfl
 refine rV (r_load uT40 ag40 rfl hc27) ?_
 obtain ⟨A28, c29, hv30, hc31, hc32⟩ := hr15.len
 refine rV (r_len uT40 hv30) (rV (r_eql (k := .i64) (a := (((digs zx.natAbs).length : Nat) : Int)) (b := 0) rfl rfl) (RL.nil ?_))
 refine wcD (p := (((digs zx.natAbs).length : Nat) : Int) = 0) rfl (fun hb33 hb33p => ?_) (fun hb33 hb33p => ?_)
 ·have hz0 : zx = 0 := by have h9 := len_zero.1 (show len zx.natAbs = 0 by unfold len; omega); omega
  refine wsr ?_
  refine rU (h_lit (vl := [(0, (.int .u32 1))]) (cs := [(.int .u32 1)]) uT40 ty89 rfl dC (by first | (simp [Instr.fill, Value.cells]; done) | rfl | kernel_rfl)) ?_
  rintro _ w34 ⟨b35, rfl, hs38, hb37, he36⟩
  replace hb9 := (hb9.ext (Ext.trans he13 he18)).exc hx25 (Nat.ne_of_gt lt_b2_b7)
  have lt_b7_b35 := Nat.lt_of_lt_of_eq hb9.lt hs38.symm
  have ge_b35 := hE.ge hs38
  refine rV (r_build (vl := [(1, (.slice (some ⟨b35, 0, none⟩) (1) (1)))]) (cs := [(.bool false), (.slice none 0 0), (.slice (some ⟨b35, 0, none⟩) (1) (1))]) uT44 ty44 rfl (pl44 uT44) rfl) ?_
  replace hb9 := hb9.ext he36
  refine RL.runs rfl rfl (h_stA (cs := [(.bool false), (.slice none 0 0), (.slice (some ⟨b35, 0, none⟩) (1) (1))]) (o := 0) ty44 rfl rfl rfl rfl (one_cons rfl (one_cons rfl (one_cons rfl one_nil))) hb9 bL) ?_
  rintro w39 ⟨hn40, hx41, hz42⟩
  replace hE := (hE.nx he36).nb hx41 ge_b7
  replace hb9 : Bk w39 b7 44 [(.bool false), (.slice none 0 0), (.slice (some ⟨b35, 0, none⟩) (1) (1))] := hn40
  refine RL.nil ?_
  refine wret ?_
  refine ⟨[(.agg #[(.bool false), (.slice none 0 0), (.slice (some ⟨b35, 0, none⟩) (1) (1))])], ⟨⟨_, _, [(.bool false), (.slice none 0 0), (.slice (some ⟨b35, 0, none⟩) (1) (1))], rfl, ⟨_, uT44⟩, hb9.cells rfl, .inl ⟨ag44, ⟨_, _, ty44⟩, rfl⟩⟩, trivial⟩, ?_⟩
  rw [hz0, Rat.zero_divInt]
  replace hb37 := hb37.exc hx41 (Nat.ne_of_gt lt_b7_b35)
  exact ⟨⟨_, _, rfl, Sg.nil, hb37.sg (g := gN .u32) (D := (fun b T => w.heap.size ≤ b ∧ T = 89)) (xs := [1]) ⟨ge_b35, rfl⟩ rfl rfl dC, Nat.zero_le _, show (digs (0 : Rat).den).length ≤ d.length + 1 from Nat.succ_le_succ (Nat.zero_le _)⟩, hE⟩
 have hz0 : zx ≠ 0 := fun h => by rw [h] at hb33p; exact hb33p rfl
 have hgp : 0 < Nat.gcd zx.natAbs (val d) := Nat.gcd_pos_of_pos_right _ oM
 refine wskip ?_
 refine wsr (rV (r_fieldAddr uT42 rfl ty40 rfl) ?_)
 have hc43 := hb4.cell (j := 1) (u := vr14) rfl
 refine rV (r_load uT40 ag40 rfl hc43) (mV (v := vr19) rfl ?_)
 replace hr15 := (hr15.tr (Sm.ext he18)).apn hx25 nb_hx25
 replace hr20 := hr20.apn hx25 nb_hx25
 refine cL ent93 (n_gcd hr15 (digs_lm _) oS hr20 (digs_lm _) oS) rfl ?_
 rintro vr46 w44 ⟨hr47, he45⟩
 try rw [val_digs] at hr47
 try rw [val_digs] at hr47
 replace hr47 := hr47.fr hE
 replace hE := hE.nx he45
 have hlv48 := dl_gcd zx.natAbs (val d)
 refine aS (v := vr46) rfl (RL.nil (wseq (wsr (mV (v := vr46) rfl ?_))))
 obtain ⟨A49, c50, hv51, hc52, hc53⟩ := hr47.len
 refine rV (r_len uT40 hv51) (rV (r_neq (k := .i64) (a := (((digs (Nat.gcd zx.natAbs (val d))).length : Nat) : Int)) (b := 1) rfl rfl) (mV (v := (bd ((((digs (Nat.gcd zx.natAbs (val d))).length : Nat) : Int) ≠ 1))) rfl ?_))
 rcases bD ((((digs (Nat.gcd zx.natAbs (val d))).length : Nat) : Int) ≠ 1) with ⟨hb54, hb54p⟩ | ⟨hb54, hb54p⟩
 ·refine RL.gno rfl rfl (bool_eq hb54) rfl dC ?_
  refine RL.gno rfl rfl (bool_eq hb54) rfl dC ?_
  refine RL.gno rfl rfl (bool_eq hb54) rfl dC ?_
  refine RL.gno rfl rfl (bool_eq hb54) rfl dC ?_
  refine rV (r_pick_t (v := (.bool true)) (bool_eq hb54) rfl) (RL.nil ?_)
  refine wcond_t rfl ?_
  refine wsr (rV (r_fieldAddr uT42 rfl ty40 rfl) ?_)
  replace hb4 := hb4.ext he45
  have hc55 := hb4.cell (j := 1) (u := vr14) rfl
  refine rV (r_load uT40 ag40 rfl hc55) (mV (v := vr46) rfl ?_)
  replace hr15 := hr15.tr (Sm.ext he45)
  refine cL ent94 (n_divmod hr15 (digs_lm _) oS hr47 (digs_lm _) oS) rfl ?_
  rintro vv62 w56 ⟨⟨vq58, vr60, hv63, hq59, hr61⟩, he57⟩
  simp only [val_digs] at hv63 hq59 hr61
  subst hv63
  have hlv64 := dl_div zx.natAbs (Nat.gcd zx.natAbs (val d))
  have hlv65 := dl_modZ zx.natAbs (Nat.gcd zx.natAbs (val d))
  have hlv66 := dl_modZ' zx.natAbs (Nat.gcd zx.natAbs (val d))
  replace hq59 := hq59.fr hE
  replace hr61 := hr61.fr hE
  refine mV (v := (.tuple #[vq58, vr60, (bd ((Nat.gcd zx.natAbs (val d)) ≠ 0))])) rfl (rV (r_extract (v := vq58) rfl rfl) (rV (r_extract (v := vr60) rfl rfl) (rV (r_extract (v := (bd ((Nat.gcd zx.natAbs (val d)) ≠ 0))) rfl rfl) (rV (r_fieldAddr uT42 rfl ty40 rfl) ?_))))
  replace hb4 := hb4.ext he57
  refine RL.runs rfl rfl (h_store (vv := vq58) (cs := [vq58]) (o := 1) ty40 rfl rfl (cells_one hq59.one) rfl (one_cons hq59.one one_nil) hb4 bL) ?_
  rintro w67 ⟨hn68, hx69, hz70⟩
  replace hE := (hE.nx he57).nb hx69 ge_b2
  have nb_hx69 := (Nb.of hb4 (nu_cons rfl (nu_cons hr15.nu nu_nil)))
  replace hb4 : Bk w67 b2 42 [(bd (zx < 0)), vq58] := hn68
  refine RL.nil (wregion (mV (v := vr19) rfl (mV (v := vr46) rfl ?_)))
  replace hr20 := (hr20.tr (Sm.ext (Ext.trans he45 he57))).apn hx69 nb_hx69
  replace hr47 := (hr47.tr (Sm.ext he57)).apn hx69 nb_hx69
  refine cL ent94 (n_divmod hr20 (digs_lm _) oS hr47 (digs_lm _) oS) rfl ?_
  rintro vv77 w71 ⟨⟨vq73, vr75, hv78, hq74, hr76⟩, he72⟩
  simp only [val_digs] at hv78 hq74 hr76
  subst hv78
  have hlv79 := dl_div (val d) (Nat.gcd zx.natAbs (val d))
  have hlv80 := dl_modZ (val d) (Nat.gcd zx.natAbs (val d))
  have hlv81 := dl_modZ' (val d) (Nat.gcd zx.natAbs (val d))
  replace hq74 := hq74.fr hE
  replace hr76 := hr76.fr hE
  refine mV (v := (.tuple #[vq73, vr75, (bd ((Nat.gcd zx.natAbs (val d)) ≠ 0))])) rfl (rV (r_extract (v := vq73) rfl rfl) (rV (r_extract (v := vr75) rfl rfl) (rV (r_extract (v := (bd ((Nat.gcd zx.natAbs (val d)) ≠ 0))) rfl rfl) (aS (v := vq73) rfl (RL.nil (wsr ?_))))))
  replace hb4 := hb4.ext he72
  have hc82 := hb4.cells (o := 0) (cs := [(bd (zx < 0)), vq58]) rfl
  refine rV (r_loada (o := 0) (cs := [(bd (zx < 0)), vq58]) uT42 ag42 ty42 rfl hc82) (mV (v := vq73) rfl (rV (r_build (vl := [(0, (.agg #[(bd (zx < 0)), vq58])), (1, vq73)]) (cs := [(bd (zx < 0)), vq58, vq73]) uT44 ty44 rfl (pl44 uT44) (by obtain ⟨_, _, e0_, -, -⟩ := hq74.len; simp only [e0_]; rfl)) ?_))
  replace hb9 := ((((hb9.ext (Ext.trans he13 he18)).exc hx25 (Nat.ne_of_gt lt_b2_b7)).ext (Ext.trans he45 he57)).exc hx69 (Nat.ne_of_gt lt_b2_b7)).ext he72
  refine RL.runs rfl rfl (h_stA (cs := [(bd (zx < 0)), vq58, vq73]) (o := 0) ty44 rfl rfl rfl rfl (one_cons rfl (one_cons hq59.one (one_cons hq74.one one_nil))) hb9 bL) ?_
  rintro w83 ⟨hn84, hx85, hz86⟩
  replace hE := (hE.nx he72).nb hx85 ge_b7
  have nb_hx85 := (Nb.of hb9 (nu_cons rfl (nu_cons rfl (nu_cons rfl nu_nil))))
  replace hb9 : Bk w83 b7 44 [(bd (zx < 0)), vq58, vq73] := hn84
  refine RL.nil ?_
  refine wret ?_
  refine ⟨[(.agg #[(bd (zx < 0)), vq58, vq73])], ⟨⟨_, _, [(bd (zx < 0)), vq58, vq73], rfl, ⟨_, uT44⟩, hb9.cells rfl, .inl ⟨ag44, ⟨_, _, ty44⟩, rfl⟩⟩, trivial⟩, ?_⟩
  have hlaw := low_law (z := zx) hnz
  have hl1 := rl_num (a := zx) (b := ((val d : Nat) : Int))
  have hl2 := rl_den (a := zx) (b := ((val d : Nat) : Int))
  rw [Int.natAbs_natCast] at hl2
  replace hq59 := ((hq59.apn hx69 nb_hx69).tr (Sm.ext he72)).apn hx85 nb_hx85
  replace hq74 := hq74.apn hx85 nb_hx85
  exact ⟨⟨_, _, agg3 (decide_eq_decide.2 hlaw.2.2.symm), by rw [hlaw.1]; exact hq59, by rw [hlaw.2.1]; exact hq74, by omega, by omega⟩, hE⟩
 have hone := one_dig (n := Nat.gcd zx.natAbs (val d)) oM
 refine RL.gval rfl rfl (bool_eq hb54) rfl dC (r_move_as (v := vr46) rfl) ?_
 obtain ⟨b87, o88, c89, hv90, hc91⟩ := hr47.ix (i := 0) (0) oM oM
 rw [show (digs (Nat.gcd zx.natAbs (val d))).getD (0) default = Nat.gcd zx.natAbs (val d) from hone.1] at hc91
 refine RL.gval rfl rfl (bool_eq hb54) rfl dC (r_indexAddr (i := 0) uT40 ty89 hv90 rfl oM oM) ?_
 refine RL.gval rfl rfl (bool_eq hb54) rfl dC (r_load (v := (.int .u32 (((Nat.gcd zx.natAbs (val d) : Nat) : Int)))) uT89 ag89 rfl hc91) ?_
 refine RL.gval rfl rfl (bool_eq hb54) rfl dC (r_neq (k := .u32) (a := ((Nat.gcd zx.natAbs (val d) : Nat) : Int)) (b := 1) rfl rfl) ?_
 refine rV (r_pick_f (v := (bd (((Nat.gcd zx.natAbs (val d) : Nat) : Int) ≠ 1))) (bool_eq hb54) rfl) (RL.nil ?_)
 refine wcD (p := ((Nat.gcd zx.natAbs (val d) : Nat) : Int) ≠ 1) rfl (fun hb92 hb92p => ?_) (fun hb92 hb92p => ?_)
 ·refine wsr ?_
  refine rV (r_fieldAddr uT42 rfl ty40 rfl) ?_
  replace hb4 := hb4.ext he45
  have hc93 := hb4.cell (j := 1) (u := vr14) rfl
  refine rV (r_load uT40 ag40 rfl hc93) (mV (v := vr46) rfl ?_)
  replace hr15 := hr15.tr (Sm.ext he45)
  refine cL ent94 (n_divmod hr15 (digs_lm _) oS hr47 (digs_lm _) oS) rfl ?_
  rintro vv100 w94 ⟨⟨vq96, vr98, hv101, hq97, hr99⟩, he95⟩
  simp only [val_digs] at hv101 hq97 hr99
  subst hv101
  have hlv102 := dl_div zx.natAbs (Nat.gcd zx.natAbs (val d))
  have hlv103 := dl_modZ zx.natAbs (Nat.gcd zx.natAbs (val d))
  have hlv104 := dl_modZ' zx.natAbs (Nat.gcd zx.natAbs (val d))
  replace hq97 := hq97.fr hE
  replace hr99 := hr99.fr hE
  refine mV (v := (.tuple #[vq96, vr98, (bd ((Nat.gcd zx.natAbs (val d)) ≠ 0))])) rfl (rV (r_extract (v := vq96) rfl rfl) (rV (r_extract (v := vr98) rfl rfl) (rV (r_extract (v := (bd ((Nat.gcd zx.natAbs (val d)) ≠ 0))) rfl rfl) (rV (r_fieldAddr uT42 rfl ty40 rfl) ?_))))
  replace hb4 := hb4.ext he95
  refine RL.runs rfl rfl (h_store (vv := vq96) (cs := [vq96]) (o := 1) ty40 rfl rfl (cells_one hq97.one) rfl (one_cons hq97.one one_nil) hb4 bL) ?_
  rintro w105 ⟨hn106, hx107, hz108⟩
  replace hE := (hE.nx he95).nb hx107 ge_b2
  have nb_hx107 := (Nb.of hb4 (nu_cons rfl (nu_cons hr15.nu nu_nil)))
  replace hb4 : Bk w105 b2 42 [(bd (zx < 0)), vq96] := hn106
  refine RL.nil (wregion (mV (v := vr19) rfl (mV (v := vr46) rfl ?_)))
  replace hr20 := (hr20.tr (Sm.ext (Ext.trans he45 he95))).apn hx107 nb_hx107
  replace hr47 := (hr47.tr (Sm.ext he95)).apn hx107 nb_hx107
  refine cL ent94 (n_divmod hr20 (digs_lm _) oS hr47 (digs_lm _) oS) rfl ?_
  rintro vv115 w109 ⟨⟨vq111, vr113, hv116, hq112, hr114⟩, he110⟩
  simp only [val_digs] at hv116 hq112 hr114
  subst hv116
  have hlv117 := dl_div (val d) (Nat.gcd zx.natAbs (val d))
  have hlv118 := dl_modZ (val d) (Nat.gcd zx.natAbs (val d))
  have hlv119 := dl_modZ' (val d) (Nat.gcd zx.natAbs (val d))
  replace hq112 := hq112.fr hE
  replace hr114 := hr114.fr hE
  refine mV (v := (.tuple #[vq111, vr113, (bd ((Nat.gcd zx.natAbs (val d)) ≠ 0))])) rfl (rV (r_extract (v := vq111) rfl rfl) (rV (r_extract (v := vr113) rfl rfl) (rV (r_extract (v := (bd ((Nat.gcd zx.natAbs (val d)) ≠ 0))) rfl rfl) (aS (v := vq111) rfl (RL.nil (wsr ?_))))))
  replace hb4 := hb4.ext he110
  have hc120 := hb4.cells (o := 0) (cs := [(bd (zx < 0)), vq96]) rfl
  refine rV (r_loada (o := 0) (cs := [(bd (zx < 0)), vq96]) uT42 ag42 ty42 rfl hc120) (mV (v := vq111) rfl (rV (r_build (vl := [(0, (.agg #[(bd (zx < 0)), vq96])), (1, vq111)]) (cs := [(bd (zx < 0)), vq96, vq111]) uT44 ty44 rfl (pl44 uT44) (by obtain ⟨_, _, e0_, -, -⟩ := hq112.len; simp only [e0_]; rfl)) ?_))
  replace hb9 := ((((hb9.ext (Ext.trans he13 he18)).exc hx25 (Nat.ne_of_gt lt_b2_b7)).ext (Ext.trans he45 he95)).exc hx107 (Nat.ne_of_gt lt_b2_b7)).ext he110
  refine RL.runs rfl rfl (h_stA (cs := [(bd (zx < 0)), vq96, vq111]) (o := 0) ty44 rfl rfl rfl rfl (one_cons rfl (one_cons hq97.one (one_cons hq112.one one_nil))) hb9 bL) ?_
  rintro w121 ⟨hn122, hx123, hz124⟩
  replace hE := (hE.nx he110).nb hx123 ge_b7
  have nb_hx123 := (Nb.of hb9 (nu_cons rfl (nu_cons rfl (nu_cons rfl nu_nil))))
  replace hb9 : Bk w121 b7 44 [(bd (zx < 0)), vq96, vq111] := hn122
  refine RL.nil ?_
  refine wret ?_
  refine ⟨[(.agg #[(bd (zx < 0)), vq96, vq111])], ⟨⟨_, _, [(bd (zx < 0)), vq96, vq111], rfl, ⟨_, uT44⟩, hb9.cells rfl, .inl ⟨ag44, ⟨_, _, ty44⟩, rfl⟩⟩, trivial⟩, ?_⟩
  have hlaw := low_law (z := zx) hnz
  have hl1 := rl_num (a := zx) (b := ((val d : Nat) : Int))
  have hl2 := rl_den (a := zx) (b := ((val d : Nat) : Int))
  rw [Int.natAbs_natCast] at hl2
  replace hq97 := ((hq97.apn hx107 nb_hx107).tr (Sm.ext he110)).apn hx123 nb_hx123
  replace hq112 := hq112.apn hx123 nb_hx123
  exact ⟨⟨_, _, agg3 (decide_eq_decide.2 hlaw.2.2.symm), by rw [hlaw.1]; exact hq97, by rw [hlaw.2.1]; exact hq112, by omega, by omega⟩, hE⟩
 have hg1 : Nat.gcd zx.natAbs (val d) = 1 := by omega
 refine wskip ?_
 refine wsr ?_
 replace hb4 := hb4.ext he45
 have hc125 := hb4.cells (o := 0) (cs := [(bd (zx < 0)), vr14]) rfl
 refine rV (r_loada (o := 0) (cs := [(bd (zx < 0)), vr14]) uT42 ag42 ty42 rfl hc125) (mV (v := vr19) rfl (rV (r_build (vl := [(0, (.agg #[(bd (zx < 0)), vr14])), (1, vr19)]) (cs := [(bd (zx < 0)), vr14, vr19]) uT44 ty44 rfl (pl44 uT44) (by obtain ⟨_, _, e0_, -, -⟩ := hr20.len; simp only [e0_]; rfl)) ?_))
 replace hb9 := ((hb9.ext (Ext.trans he13 he18)).exc hx25 (Nat.ne_of_gt lt_b2_b7)).ext he45
 refine RL.runs rfl rfl (h_stA (cs := [(bd (zx < 0)), vr14, vr19]) (o := 0) ty44 rfl rfl rfl rfl (one_cons rfl (one_cons hr15.one (one_cons hr20.one one_nil))) hb9 bL) ?_
 rintro w126 ⟨hn127, hx128, hz129⟩
 replace hE := hE.nb hx128 ge_b7
 have nb_hx128 := (Nb.of hb9 (nu_cons rfl (nu_cons rfl (nu_cons rfl nu_nil))))
 replace hb9 : Bk w126 b7 44 [(bd (zx < 0)), vr14, vr19] := hn127
 refine RL.nil ?_
 refine wret ?_
 refine ⟨[(.agg #[(bd (zx < 0)), vr14, vr19])], ⟨⟨_, _, [(bd (zx < 0)), vr14, vr19], rfl, ⟨_, uT44⟩, hb9.cells rfl, .inl ⟨ag44, ⟨_, _, ty44⟩, rfl⟩⟩, trivial⟩, ?_⟩
 have hlaw := low_law (z := zx) hnz
 have hl1 := rl_num (a := zx) (b := ((val d : Nat) : Int))
 have hl2 := rl_den (a := zx) (b := ((val d : Nat) : Int))
 rw [Int.natAbs_natCast] at hl2
 rw [hg1, Nat.div_one, Nat.div_one] at hlaw
 replace hr15 := (hr15.tr (Sm.ext he45)).apn hx128 nb_hx128
 replace hr20 := (hr20.tr (Sm.ext he45)).apn hx128 nb_hx128
 exact ⟨⟨_, _, agg3 (decide_eq_decide.2 hlaw.2.2.symm), by rw [hlaw.1]; exact hr15, by rw [hlaw.2.1]; exact hr20, by omega, by omega⟩, hE⟩
set_option maxHeartbeats 1000000 in
theorem q_small {w : World} {sx : Bool} {Dx Ex : Nat → TypeId → Prop} {vx ux : Value} {x dx : List Nat} (hx : Sg (gN .u32) Dx w vx x) (lmx : Lm x) (lnx : x.length ≤ 68719476736) (hdx : Sg (gN .u32) Ex w ux dx) (lmdx : Lm dx) (lndx : dx.length ≤ 68719476736) {qx : Rat} (ex : ratOf sx (val x) (val dx) = qx) :
    Calls Tryz.prog 59 #[(.agg #[(.bool sx), vx, ux])] w fun e w' => ∃ v, e = .returned v ∧ (∃ (n d : Int) (ok : Bool), v = .tuple #[.int .i64 n, .int .i64 d, .bool ok] ∧ (ok = true → -2147483648 < n ∧ n < 2147483648 ∧ 0 < d ∧ d < 2147483648 ∧ Rat.divInt n d = qx)) ∧ Ext w w' := by
 have hE : Below w.heap.size w w := Below.refl _ _
 have hlqx := rl_of lmx lmdx ex
 have hdqx := den_one qx
 refine calls_of (n := 52) (rs := [.tmp 2, .tmp 3, .tmp 4]) func59 rfl rfl rfl bL ?_
 refine wset fun F0 hF0 => ?_
 refine wsr ?_
 refine rU (h_bxA (cs := [(.bool sx), vx, ux]) (hF0 0) rfl) ?_
 rintro _ w1 ⟨b2, rfl, hs5, hb4, he3⟩
 have ge_b2 := hE.ge hs5
 refine aS (v := (iv 0)) rfl (aS (v := (iv 0)) rfl (aS (v := (.bool false)) rfl (RL.nil (wsr (rV (r_fieldAddr uT44 rfl ty42 rfl) (rV (r_fieldAddr uT42 rfl ty40 rfl) ?_))))))
 have hc6 := hb4.cell (j := 1) (u := vx) rfl
 refine rV (r_load uT40 ag40 rfl hc6) ?_
 replace hx := hx.tr (Sm.ext he3)
 refine cL ent89 (n_uint hx (by assumption) oS) rfl ?_
 rintro vq9 w7 ⟨hq10, he8⟩
 subst hq10
 refine mV (v := (.tuple #[(.int .u64 (((if (val x) < 18446744073709551616 then (val x) else 0 : Nat) : Int))), (bd ((val x) < 18446744073709551616))])) rfl (rV (r_extract (v := (.int .u64 (((if (val x) < 18446744073709551616 then (val x) else 0 : Nat) : Int)))) rfl rfl) (rV (r_extract (v := (bd ((val x) < 18446744073709551616))) rfl rfl) (aS (v := (.int .u64 (((if (val x) < 18446744073709551616 then (val x) else 0 : Nat) : Int)))) rfl (aS (v := (bd ((val x) < 18446744073709551616))) rfl (RL.nil (wsr (rV (r_fieldAddr uT44 rfl ty40 rfl) ?_)))))))
 replace hb4 := hb4.ext he8
 have hc11 := hb4.cell (j := 2) (u := ux) rfl
 refine rV (r_load uT40 ag40 rfl hc11) ?_
 replace hdx := hdx.tr (Sm.ext (Ext.trans he3 he8))
 refine cL ent89 (n_uint hdx (by assumption) oS) rfl ?_
 rintro vq14 w12 ⟨hq15, he13⟩
 subst hq15
 replace hE := ((hE.nx he3).nx he8).nx he13
 refine mV (v := (.tuple #[(.int .u64 (((if (val dx) < 18446744073709551616 then (val dx) else 0 : Nat) : Int))), (bd ((val dx) < 18446744073709551616))])) rfl (rV (r_extract (v := (.int .u64 (((if (val dx) < 18446744073709551616 then (val dx) else 0 : Nat) : Int)))) rfl rfl) (rV (r_extract (v := (bd ((val dx) < 18446744073709551616))) rfl rfl) (aS (v := (.int .u64 (((if (val dx) < 18446744073709551616 then (val dx) else 0 : Nat) : Int)))) rfl (aS (v := (bd ((val dx) < 18446744073709551616))) rfl (RL.nil (wseq ?_))))))
 refine wblock ?_
 refine wsr (mV (v := (bd ((val x) < 18446744073709551616))) rfl (rV (r_not rfl) (mV (v := (.bool (!(decide ((val x) < 18446744073709551616))))) rfl ?_)))
 rcases Bool.eq_false_or_eq_true (!(decide ((val x) < 18446744073709551616))) with hb16 | hb16
 ·have hb16p := hb16
  refine RL.gno rfl rfl (bool_eq hb16) rfl dC ?_
  refine RL.gno rfl rfl (bool_eq hb16) rfl dC ?_
  refine rV (r_pick_t (v := (.bool true)) (bool_eq hb16) rfl) (mV (v := (.bool true)) rfl ?_)
  refine RL.gno rfl rfl rfl rfl dC ?_
  refine RL.gno rfl rfl rfl rfl dC ?_
  refine rV (r_pick_t (v := (.bool true)) rfl rfl) (mV (v := (.bool true)) rfl ?_)
  refine RL.gno rfl rfl rfl rfl dC ?_
  refine RL.gno rfl rfl rfl rfl dC ?_
  refine rV (r_pick_t (v := (.bool true)) rfl rfl) (aS (v := (.bool true)) rfl (RL.nil ?_))
  refine wcond_t rfl ?_
  refine wsr (aS (v := (iv 0)) rfl (aS (v := (iv 0)) rfl (aS (v := (.bool false)) rfl (RL.nil ?_))))
  refine wret ?_
  refine ⟨[(iv 0), (iv 0), (.bool false)], ⟨rfl, ⟨rfl, ⟨rfl, trivial⟩⟩⟩, ?_⟩
  exact ⟨⟨_, _, _, rfl, fun h => by cases h⟩, hE⟩
 have hb16p := hb16
 have hx64 : val x < 18446744073709551616 := by simpa using hb16
 refine RL.gval rfl rfl (bool_eq hb16) rfl dC (r_move_as (v := (bd ((val dx) < 18446744073709551616))) rfl) ?_
 refine RL.gval rfl rfl (bool_eq hb16) rfl dC (r_not rfl) ?_
 refine rV (r_pick_f (v := (.bool (!(decide ((val dx) < 18446744073709551616))))) (bool_eq hb16) rfl) (mV (v := (.bool (!(decide ((val dx) < 18446744073709551616))))) rfl ?_)
 rcases Bool.eq_false_or_eq_true (!(decide ((val dx) < 18446744073709551616))) with hb17 | hb17
 ·have hb17p := hb17
  refine RL.gno rfl rfl (bool_eq hb17) rfl dC ?_
  refine RL.gno rfl rfl (bool_eq hb17) rfl dC ?_
  refine rV (r_pick_t (v := (.bool true)) (bool_eq hb17) rfl) (mV (v := (.bool true)) rfl ?_)
  refine RL.gno rfl rfl rfl rfl dC ?_
  refine RL.gno rfl rfl rfl rfl dC ?_
  refine rV (r_pick_t (v := (.bool true)) rfl rfl) (aS (v := (.bool true)) rfl (RL.nil ?_))
  refine wcond_t rfl ?_
  refine wsr (aS (v := (iv 0)) rfl (aS (v := (iv 0)) rfl (aS (v := (.bool false)) rfl (RL.nil ?_))))
  refine wret ?_
  refine ⟨[(iv 0), (iv 0), (.bool false)], ⟨rfl, ⟨rfl, ⟨rfl, trivial⟩⟩⟩, ?_⟩
  exact ⟨⟨_, _, _, rfl, fun h => by cases h⟩, hE⟩
 have hb17p := hb17
 have hd64 : val dx < 18446744073709551616 := by first | (simpa using hb17) | (have h8 := hb17p; simpa using h8)
 refine RL.gval rfl rfl (bool_eq hb17) rfl dC (r_move_as (v := (.int .u64 (((if (val x) < 18446744073709551616 then (val x) else 0 : Nat) : Int)))) rfl) ?_
 refine RL.gval rfl rfl (bool_eq hb17) rfl dC (r_geq (k := .u64) (a := ((if (val x) < 18446744073709551616 then (val x) else 0 : Nat) : Int)) (b := 2147483648) rfl rfl) ?_
 refine rV (r_pick_f (v := (bd (2147483648 ≤ ((if (val x) < 18446744073709551616 then (val x) else 0 : Nat) : Int)))) (bool_eq hb17) rfl) (mV (v := (bd (2147483648 ≤ ((if (val x) < 18446744073709551616 then (val x) else 0 : Nat) : Int)))) rfl ?_)
 rcases bD (2147483648 ≤ ((if (val x) < 18446744073709551616 then (val x) else 0 : Nat) : Int)) with ⟨hb18, hb18p⟩ | ⟨hb18, hb18p⟩
 ·refine RL.gno rfl rfl (bool_eq hb18) rfl dC ?_
  refine RL.gno rfl rfl (bool_eq hb18) rfl dC ?_
  refine rV (r_pick_t (v := (.bool true)) (bool_eq hb18) rfl) (aS (v := (.bool true)) rfl (RL.nil ?_))
  refine wcond_t rfl ?_
  refine wsr (aS (v := (iv 0)) rfl (aS (v := (iv 0)) rfl (aS (v := (.bool false)) rfl (RL.nil ?_))))
  refine wret ?_
  refine ⟨[(iv 0), (iv 0), (.bool false)], ⟨rfl, ⟨rfl, ⟨rfl, trivial⟩⟩⟩, ?_⟩
  exact ⟨⟨_, _, _, rfl, fun h => by cases h⟩, hE⟩
 have hx31 := hb18p
 rw [if_pos hx64] at hx31
 refine RL.gval rfl rfl (bool_eq hb18) rfl dC (r_move_as (v := (.int .u64 (((if (val dx) < 18446744073709551616 then (val dx) else 0 : Nat) : Int)))) rfl) ?_
 refine RL.gval rfl rfl (bool_eq hb18) rfl dC (r_geq (k := .u64) (a := ((if (val dx) < 18446744073709551616 then (val dx) else 0 : Nat) : Int)) (b := 2147483648) rfl rfl) ?_
 refine rV (r_pick_f (v := (bd (2147483648 ≤ ((if (val dx) < 18446744073709551616 then (val dx) else 0 : Nat) : Int)))) (bool_eq hb18) rfl) (aS (v := (bd (2147483648 ≤ ((if (val dx) < 18446744073709551616 then (val dx) else 0 : Nat) : Int)))) rfl (RL.nil ?_))
 refine wcD (p := 2147483648 ≤ ((if (val dx) < 18446744073709551616 then (val dx) else 0 : Nat) : Int)) rfl (fun hb19 hb19p => ?_) (fun hb19 hb19p => ?_)
 ·refine wsr ?_
  refine aS (v := (iv 0)) rfl (aS (v := (iv 0)) rfl (aS (v := (.bool false)) rfl (RL.nil ?_)))
  refine wret ?_
  refine ⟨[(iv 0), (iv 0), (.bool false)], ⟨rfl, ⟨rfl, ⟨rfl, trivial⟩⟩⟩, ?_⟩
  exact ⟨⟨_, _, _, rfl, fun h => by cases h⟩, hE⟩
 have hd31 := hb19p
 rw [if_pos hd64] at hd31
 refine wsr (mV (v := (.int .u64 (((if (val dx) < 18446744073709551616 then (val dx) else 0 : Nat) : Int)))) rfl (rV (r_eql (k := .u64) (a := ((if (val dx) < 18446744073709551616 then (val dx) else 0 : Nat) : Int)) (b := 0) rfl rfl) (aS (v := (bd (((if (val dx) < 18446744073709551616 then (val dx) else 0 : Nat) : Int) = 0))) rfl (RL.nil ?_))))
 refine wcD (p := ((if (val dx) < 18446744073709551616 then (val dx) else 0 : Nat) : Int) = 0) rfl (fun hb20 hb20p => ?_) (fun hb20 hb20p => ?_)
 ·have hz : val dx = 0 := by have h8 := hb20p; rw [if_pos hd64] at h8; omega
  refine wsr (aS (v := (iv 0)) rfl (aS (v := (iv 1)) rfl (aS (v := (.bool true)) rfl (RL.nil ?_))))
  refine wret ?_
  refine ⟨[(iv 0), (iv 1), (.bool true)], ⟨rfl, ⟨rfl, ⟨rfl, trivial⟩⟩⟩, ?_⟩
  exact ⟨⟨_, _, _, rfl, fun _ => ⟨by decide, by decide, by decide, by decide, by rw [← ex, hz, ratOf_den0]; exact Rat.zero_divInt _⟩⟩, hE⟩
 have hz : val dx ≠ 0 := by have h8 := hb20p; rw [if_pos hd64] at h8; omega
 refine wsr (rV (r_fieldAddr uT44 rfl ty42 rfl) (rV (r_fieldAddr uT42 rfl ty4 rfl) ?_))
 replace hb4 := hb4.ext he13
 have hc21 := hb4.cell (j := 0) (u := (.bool sx)) rfl
 refine rV (r_load uT4 ag4 rfl hc21) (aS (v := (.bool sx)) rfl (RL.nil ?_))
 refine wcond (b := sx) rfl (fun hb22 => ?_) (fun hb22 => ?_)
 ·have hb22p := hb22
  have hsx : sx = true := hb22
  refine wsr (mV (v := (.int .u64 (((if (val x) < 18446744073709551616 then (val x) else 0 : Nat) : Int)))) rfl (rV (r_conv (k := .i64) (a := ((if (val x) < 18446744073709551616 then (val x) else 0 : Nat) : Int)) (c := ((val x : Nat) : Int)) uT73 uT2 rfl (by rw [if_pos hx64]; exact wi64 oM)) (rV (r_neg (k := .i64) (a := ((val x : Nat) : Int)) (c := -((val x : Nat) : Int)) rfl ((wi64 oM).trans oM)) (mV (v := (.int .u64 (((if (val dx) < 18446744073709551616 then (val dx) else 0 : Nat) : Int)))) rfl (rV (r_conv (k := .i64) (a := ((if (val dx) < 18446744073709551616 then (val dx) else 0 : Nat) : Int)) (c := ((val dx : Nat) : Int)) uT73 uT2 rfl (by rw [if_pos hd64]; exact wi64 oM)) (aS (v := (iv (-((val x : Nat) : Int)))) rfl (aS (v := (iv (val dx : Nat))) rfl (aS (v := (.bool true)) rfl (RL.nil ?_)))))))))
  refine wret ?_
  refine ⟨[(iv (-((val x : Nat) : Int))), (iv (val dx : Nat)), (.bool true)], ⟨rfl, ⟨rfl, ⟨rfl, trivial⟩⟩⟩, ?_⟩
  exact ⟨⟨_, _, _, rfl, fun _ => ⟨by omega, by omega, by omega, by omega, by rw [← ex, hsx]; rfl⟩⟩, hE⟩
 have hb22p := hb22
 have hsx : sx = false := hb22
 refine wskip ?_
 refine wsr (mV (v := (.int .u64 (((if (val x) < 18446744073709551616 then (val x) else 0 : Nat) : Int)))) rfl (rV (r_conv (k := .i64) (a := ((if (val x) < 18446744073709551616 then (val x) else 0 : Nat) : Int)) (c := ((val x : Nat) : Int)) uT73 uT2 rfl (by rw [if_pos hx64]; exact wi64 oM)) (mV (v := (.int .u64 (((if (val dx) < 18446744073709551616 then (val dx) else 0 : Nat) : Int)))) rfl (rV (r_conv (k := .i64) (a := ((if (val dx) < 18446744073709551616 then (val dx) else 0 : Nat) : Int)) (c := ((val dx : Nat) : Int)) uT73 uT2 rfl (by rw [if_pos hd64]; exact wi64 oM)) (aS (v := (iv (val x : Nat))) rfl (aS (v := (iv (val dx : Nat))) rfl (aS (v := (.bool true)) rfl (RL.nil ?_))))))))
 refine wret ?_
 refine ⟨[(iv (val x : Nat)), (iv (val dx : Nat)), (.bool true)], ⟨rfl, ⟨rfl, ⟨rfl, trivial⟩⟩⟩, ?_⟩
 exact ⟨⟨_, _, _, rfl, fun _ => ⟨by omega, by omega, by omega, by omega, by rw [← ex, hsx]; rfl⟩⟩, hE⟩
set_option maxHeartbeats 1000000 in
theorem q_quot {w : World} {n d : Int} (hn : -9223372036854775807 ≤ n ∧ n ≤ 9223372036854775807) (hd : 0 < d ∧ d ≤ 9223372036854775807) :
    Calls Tryz.prog 60 #[(iv n), (iv d)] w fun e w' => ∃ v, e = .returned v ∧ (∃ vn vd, v = .agg #[.bool (decide ((Rat.divInt n d).num < 0)), vn, vd] ∧ Sg (gN .u32) (fun b T => w.heap.size ≤ b ∧ T = 89) w' vn (digs (Rat.divInt n d).num.natAbs) ∧ Sg (gN .u32) (fun b T => w.heap.size ≤ b ∧ T = 89) w' vd (digs (Rat.divInt n d).den) ∧ (digs (Rat.divInt n d).num.natAbs).length ≤ 2 ∧ (digs (Rat.divInt n d).den).length ≤ 2) ∧ Ext w w' := by
 have hE : Below w.heap.size w w := Below.refl _ _
 refine calls_of (n := 36) (rs := [.cell 4 44]) func60 rfl rfl rfl bL ?_
 refine wset fun F0 hF0 => ?_
 refine wsr ?_
 refine rU (h_alloc (cs := [(.bool false), (.slice none 0 0), (.slice none 0 0)]) ty44 rfl) ?_
 rintro _ w1 ⟨b2, rfl, hs5, hb4, he3⟩
 have ge_b2 := hE.ge hs5
 replace hE := hE.nx he3
 refine RL.nil (wsr (mV (v := (iv n)) (hF0 0) (rV (r_conv (k := .u64) (a := n) (c := n % 18446744073709551616) uT2 uT73 rfl (wu64m _)) (aS (v := (.int .u64 (n % 18446744073709551616))) rfl (RL.nil ?_)))))
 refine wset fun F6 hF7 => ?_
 refine wcut (fun fl wl => Off [5, 10, 11, 12, 13] F6 fl ∧ fl 5 = (.int .u64 (((n.natAbs : Nat) : Int))) ∧ (Below w.heap.size w wl) ∧ (Bk wl b2 44 [(.bool false), (.slice none 0 0), (.slice none 0 0)])) ?_ ?_
 ·have G8 := Off.refl [5, 10, 11, 12, 13] F6
  refine wsr (mV (v := (iv n)) ((hF7 0).trans (hF0 0)) (rV (r_lss (k := .i64) (a := n) (b := 0) rfl rfl) (RL.nil ?_)))
  refine wcD (p := n < 0) rfl (fun hb9 hb9p => ?_) (fun hb9 hb9p => ?_)
  ·refine wregion ?_
   refine mV (v := (.int .u64 (n % 18446744073709551616))) (hF7 5) (rV (r_neg (k := .u64) (a := n % 18446744073709551616) (c := ((n.natAbs : Nat) : Int)) rfl (by rw [wu64m]; omega)) (aS (v := (.int .u64 (((n.natAbs : Nat) : Int)))) rfl (RL.nil ?_)))
   refine ⟨?_, ?_, ?_, ?_⟩
   · exact (by repeat (first | exact G8 | refine Off.st ?_ dC _))
   · first | rfl | exact int_eq oM
   · exact hE
   exact hb4
  refine wskip ?_
  refine ⟨?_, ?_, ?_, ?_⟩
  · exact (by repeat (first | exact G8 | refine Off.st ?_ dC _))
  · refine ((hF7 5)).trans ?_
    first | rfl | exact int_eq oM
  · exact hE
  exact hb4
 clear hE hb4
 rintro f10 w11 ⟨G12, hs13, hE, hb4⟩
 refine wsr (mV (v := (iv d)) ((G12 1 rfl).trans ((hF7 1).trans (hF0 1))) (rV (r_conv (k := .u64) (a := d) (c := ((d.natAbs : Nat) : Int)) uT2 uT73 rfl ((wu64 oM).trans oM)) (mV hs13 (aS (v := (.int .u64 (((d.natAbs : Nat) : Int)))) rfl (aS (v := (.int .u64 (((n.natAbs : Nat) : Int)))) rfl (RL.nil (wseq ?_)))))))
 refine wblock ?_
 refine wset fun F14 hF15 => ?_
 refine wloop (σ := Nat × Nat) (fun (s : Nat × Nat) fl wl => match s with | (g, r) => Off (rg 6 2 (rg 17 6 [])) F14 fl ∧ fl 6 = (.int .u64 (g : Int)) ∧ fl 7 = (.int .u64 (r : Int)) ∧ (Nat.gcd g r = Nat.gcd n.natAbs d.natAbs) ∧ (g < 18446744073709551616) ∧ (r < 18446744073709551616) ∧ (Below w.heap.size w wl) ∧ (Bk wl b2 44 [(.bool false), (.slice none 0 0), (.slice none 0 0)])) (fun (s : Nat × Nat) => match s with | (g, r) => r) (d.natAbs, n.natAbs) ?_ ?_
 ·exact ⟨Off.refl _ _, (hF15 6).trans (rfl), (hF15 7).trans (rfl), Nat.gcd_comm _ _, by omega, by omega, hE, hb4⟩
 clear hE hb4
 rintro ⟨g, r⟩ f16 w17 ⟨G18, hs19, hs20, hg, hg64, hr64, hE, hb4⟩
 refine wseq (wsr (mV hs20 (rV (r_neq (k := .u64) (a := (r : Int)) (b := 0) rfl rfl) (RL.nil ?_))))
 refine wcD (p := (r : Int) ≠ 0) rfl (fun hb21 hb21p => ?_) (fun hb21 hb21p => ?_)
 ·have hr0 : r ≠ 0 := by omega
  have hdm := Nat.mod_lt g (show 0 < r by omega)
  refine wskip ?_
  refine wblock ?_
  refine wdraw mixed fun w22 he23 => ?_
  replace hE := hE.nx he23
  refine aM 0 rfl (v := (.int .u64 (r : Int))) hs20 ?_
  refine aM 1 rfl (v := (.int .u64 (g : Int))) hs19 ?_
  refine aM 2 rfl (v := (.int .u64 (r : Int))) hs20 ?_
  refine ra 3 rfl (fun _ => r_rem (k := .u64) (a := (g : Int)) (b := (r : Int)) (c := ((g % r : Nat) : Int)) rfl rfl oM (remN _ _)) ?_
  refine aA 4 rfl (v := (.int .u64 (r : Int))) rfl ?_
  refine aA 5 rfl (v := (.int .u64 (((g % r : Nat) : Int)))) rfl ?_
  refine RA.done kR ?_
  replace hb4 := hb4.ext he23
  refine ⟨(r, g % r), ⟨?_, ?_, ?_, ?_, ?_, ?_, ?_, ?_⟩, ?_⟩
  · exact (by repeat (first | exact G18 | refine Off.st ?_ dC _ | refine Off.via G12 dC ?_ | refine Off.eq hF7 ?_))
  · first | rfl | exact int_eq oM | exact bool_eq (by simp)
  · first | rfl | exact int_eq oM | exact bool_eq (by simp)
  · rw [← hg, Nat.gcd_comm, ← Nat.gcd_rec, Nat.gcd_comm]
  · omega
  · omega
  · exact hE
  · exact hb4
  (try dsimp only)
  omega
 have hr0 : r = 0 := by omega
 rw [hr0, Nat.gcd_zero_right] at hg
 have hgcd := hg
 have hgp : 0 < g := by rw [hg]; exact Nat.gcd_pos_of_pos_right _ oM
 have hq1 := Nat.div_le_self n.natAbs g
 have hq2 := Nat.div_le_self d.natAbs g
 refine wexit ?_
 refine wseq ?_
 refine wdraw mixed fun w24 he25 => ?_
 replace hE := hE.nx he25
 refine aM 0 rfl (v := (iv n)) ((G18 0 rfl).trans ((hF15 0).trans ((G12 0 rfl).trans ((hF7 0).trans (hF0 0))))) ?_
 refine ra 1 rfl (fun _ => r_lss (k := .i64) (a := n) (b := 0) rfl rfl) ?_
 refine aM 2 rfl (v := (.int .u64 (((n.natAbs : Nat) : Int)))) ((G18 5 rfl).trans ((hF15 5).trans hs13)) ?_
 refine aM 3 rfl (v := (.int .u64 (g : Int))) hs19 ?_
 refine ra 4 rfl (fun _ => r_quo (k := .u64) (a := ((n.natAbs : Nat) : Int)) (b := (g : Int)) (c := ((n.natAbs / g : Nat) : Int)) rfl rfl oM (quoN oM)) ?_
 refine aM 7 rfl (v := (iv d)) ((G18 1 rfl).trans ((hF15 1).trans ((G12 1 rfl).trans ((hF7 1).trans (hF0 1))))) ?_
 refine ra 8 rfl (fun _ => r_conv (k := .u64) (a := d) (c := ((d.natAbs : Nat) : Int)) uT2 uT73 rfl ((wu64 oM).trans oM)) ?_
 refine aM 9 rfl (v := (.int .u64 (g : Int))) hs19 ?_
 refine ra 10 rfl (fun _ => r_quo (k := .u64) (a := ((d.natAbs : Nat) : Int)) (b := (g : Int)) (c := ((d.natAbs / g : Nat) : Int)) rfl rfl oM (quoN oM)) ?_
 refine RA.all [5] kR rfl ?_
 refine cS ent90 (n_from oM) rfl rfl ?_ RS.nil
 rintro vr28 w26 ⟨hr29, he27⟩
 refine rm he27 ?_
 replace hr29 := hr29.fr hE
 replace hE := hE.nx he27
 have hlv30 := dl_u64 (n := n.natAbs / g) oM
 refine ra 6 rfl (fun _ => r_build (vl := [(0, (bd (n < 0))), (1, vr28)]) (cs := [(bd (n < 0)), vr28]) uT42 ty42 rfl (pl42 uT42) (by obtain ⟨_, _, e0_, -, -⟩ := hr29.len; simp only [e0_]; rfl)) ?_
 refine RA.all [11] kR rfl ?_
 refine cS ent90 (n_from oM) rfl rfl ?_ RS.nil
 rintro vr33 w31 ⟨hr34, he32⟩
 refine rm he32 ?_
 replace hr34 := hr34.fr hE
 have hlv35 := dl_u64 (n := d.natAbs / g) oM
 refine ra 12 rfl (fun _ => r_build (vl := [(0, (.agg #[(bd (n < 0)), vr28])), (1, vr33)]) (cs := [(bd (n < 0)), vr28, vr33]) uT44 ty44 rfl (pl44 uT44) (by obtain ⟨_, _, e0_, -, -⟩ := hr34.len; simp only [e0_]; rfl)) ?_
 refine RA.all [13] kR rfl ?_
 have hm40 := Ext.trans he25 (Ext.trans he27 he32)
 replace hb4 := hb4.ext hm40
 refine RS.runs rfl rfl rfl (h_stA (cs := [(bd (n < 0)), vr28, vr33]) (o := 0) ty44 ((G18 4 rfl).trans ((hF15 4).trans ((G12 4 rfl).trans (hF7 4)))) rfl rfl rfl (one_cons rfl (one_cons hr29.one (one_cons hr34.one one_nil))) hb4 bL) ?_ RS.nil
 rintro w36 ⟨hn37, hx38, hz39⟩
 refine ⟨.inr (.inl kR), ?_⟩
 replace hE := (hE.nx he32).nb hx38 ge_b2
 have nb_hx38 := (Nb.of hb4 (nu_cons rfl (nu_cons rfl (nu_cons rfl nu_nil))))
 replace hb4 : Bk w36 b2 44 [(bd (n < 0)), vr28, vr33] := hn37
 refine RA.done kR ?_
 refine wret ?_
 refine ⟨[(.agg #[(bd (n < 0)), vr28, vr33])], ⟨⟨_, _, [(bd (n < 0)), vr28, vr33], ((G18 4 rfl).trans ((hF15 4).trans ((G12 4 rfl).trans (hF7 4)))), ⟨_, uT44⟩, hb4.cells rfl, .inl ⟨ag44, ⟨_, _, ty44⟩, rfl⟩⟩, trivial⟩, ?_⟩
 have hlaw := low_law (z := n) (d := d.natAbs) oM
 rw [← hgcd] at hlaw
 rw [show Rat.divInt n d = Rat.divInt n ((d.natAbs : Nat) : Int) by rw [show ((d.natAbs : Nat) : Int) = d by omega]]
 replace hr29 := (hr29.tr (Sm.ext he32)).apn hx38 nb_hx38
 replace hr34 := hr34.apn hx38 nb_hx38
 exact ⟨⟨_, _, agg3 (decide_eq_decide.2 hlaw.2.2.symm), by rw [hlaw.1]; exact hr29, by rw [hlaw.2.1]; exact hr34, by rw [hlaw.1]; omega, by rw [hlaw.2.1]; omega⟩, hE⟩
end Go.Proofs.YtelbjmhhbeijkaaGreat
namespace Go.Proofs.YtelbjmhhbeijkaaGreat
open Go.Vg Go.RowKit _root_.Go.Proofs.Tryz
set_option linter.unusedVariables false
open Go.Vm
set_option maxHeartbeats 1000000 in
theorem q_norm {w : World} {sx : Bool} {Dx Ex : Nat → TypeId → Prop} {vx ux : Value} {x dx : List Nat} (hx : Sg (gN .u32) Dx w vx x) (lmx : Lm x) (lnx : x.length ≤ 17179869184) (hdx : Sg (gN .u32) Ex w ux dx) (lmdx : Lm dx) (lndx : dx.length ≤ 17179869184) {qx : Rat} (ex : ratOf sx (val x) (val dx) = qx) :
    Calls Tryz.prog 38 #[(.agg #[(.bool sx), vx, ux])] w fun e w' => ∃ v, e = .returned v ∧ (∃ vn vd, v = .agg #[.bool (decide (qx.num < 0)), vn, vd] ∧ Sg (gN .u32) (fun b T => w.heap.size ≤ b ∧ T = 89) w' vn (digs qx.num.natAbs) ∧ Sg (gN .u32) (fun b T => w.heap.size ≤ b ∧ T = 89) w' vd (digs qx.den) ∧ (digs qx.num.natAbs).length ≤ x.length ∧ (digs qx.den).length ≤ dx.length + 1) ∧ Ext w w' := by
 have hE : Below w.heap.size w w := Below.refl _ _
 have hlqx := rl_of lmx lmdx ex
 have hdqx := den_one qx
 refine calls_of (n := 21) (rs := [.cell 2 44]) func38 rfl rfl rfl bL ?_
 refine wset fun F0 hF0 => ?_
 refine wsr ?_
 refine rU (h_bxA (cs := [(.bool sx), vx, ux]) (hF0 0) rfl) ?_
 rintro _ w1 ⟨b2, rfl, hs5, hb4, he3⟩
 have ge_b2 := hE.ge hs5
 replace hE := hE.nx he3
 refine rU (h_alloc (cs := [(.bool false), (.slice none 0 0), (.slice none 0 0)]) ty44 rfl) ?_
 rintro _ w6 ⟨b7, rfl, hs10, hb9, he8⟩
 have lt_b2_b7 := Nat.lt_of_lt_of_eq hb4.lt hs10.symm
 have ge_b7 := hE.ge hs10
 refine RL.nil (wseq (wsr ?_))
 replace hb4 := hb4.ext he8
 have hc11 := hb4.cells (o := 0) (cs := [(.bool sx), vx, ux]) rfl
 refine rV (r_loada (o := 0) (cs := [(.bool sx), vx, ux]) uT44 ag44 ty44 rfl hc11) ?_
 replace hx := hx.tr (Sm.ext (Ext.trans he3 he8))
 replace hdx := hdx.tr (Sm.ext (Ext.trans he3 he8))
 refine RL.call rfl rfl dC (r_call (vl := [(.agg #[(.bool sx), vx, ux])]) ent59 rfl) (q_small hx (by assumption) oS hdx (by assumption) oS (show ratOf sx (val x) (val dx) = qx from ex)) ?_
 rintro _ w12 ⟨⟨nX, dX, okX, rfl, hsX⟩, he13⟩
 replace hE := (hE.nx he8).nx he13
 refine mV (v := (.tuple #[(iv nX), (iv dX), (.bool okX)])) rfl (rV (r_extract (v := (iv nX)) rfl rfl) (rV (r_extract (v := (iv dX)) rfl rfl) (rV (r_extract (v := (.bool okX)) rfl rfl) (aS (v := (iv nX)) rfl (aS (v := (iv dX)) rfl (aS (v := (.bool okX)) rfl (RL.nil (wsr (mV (v := (.bool okX)) rfl (RL.nil ?_))))))))))
 refine wcond (b := okX) rfl (fun hb14 => ?_) (fun hb14 => ?_)
 ·have hb14p := hb14
  have hok : okX = true := hb14
  have hs1 := hsX hb14
  refine wsr (mV (v := (iv nX)) rfl (mV (v := (iv dX)) rfl ?_))
  refine cL ent60 (q_quot oM oM) rfl ?_
  rintro _ w15 ⟨⟨vn17, vd19, rfl, hn18, hd20, hl21, hl22⟩, he16⟩
  have hlv23 := den_one (Rat.divInt nX dX)
  replace hn18 := hn18.fr hE
  replace hd20 := hd20.fr hE
  replace hb9 := hb9.ext (Ext.trans he13 he16)
  refine RL.runs rfl rfl (h_stA (cs := [(bd ((Rat.divInt nX dX).num < 0)), vn17, vd19]) (o := 0) ty44 rfl rfl rfl rfl (one_cons rfl (one_cons hn18.one (one_cons hd20.one one_nil))) hb9 bL) ?_
  rintro w24 ⟨hn25, hx26, hz27⟩
  replace hE := (hE.nx he16).nb hx26 ge_b7
  have nb_hx26 := (Nb.of hb9 (nu_cons rfl (nu_cons rfl (nu_cons rfl nu_nil))))
  replace hb9 : Bk w24 b7 44 [(bd ((Rat.divInt nX dX).num < 0)), vn17, vd19] := hn25
  refine RL.nil ?_
  refine wret ?_
  refine ⟨[(.agg #[(bd ((Rat.divInt nX dX).num < 0)), vn17, vd19])], ⟨⟨_, _, [(bd ((Rat.divInt nX dX).num < 0)), vn17, vd19], rfl, ⟨_, uT44⟩, hb9.cells rfl, .inl ⟨ag44, ⟨_, _, ty44⟩, rfl⟩⟩, trivial⟩, ?_⟩
  have hq : (Rat.divInt nX dX) = qx := by first | exact (hsX hok).2.2.2.2 | exact eqX
  replace hn18 := hn18.apn hx26 nb_hx26
  replace hd20 := hd20.apn hx26 nb_hx26
  exact ⟨⟨_, _, agg3 (congrArg (fun z : Rat => decide (z.num < 0)) hq), by rw [← hq]; exact hn18, by rw [← hq]; exact hd20, by omega, by omega⟩, hE⟩
 have hb14p := hb14
 refine wskip ?_
 refine wsr ?_
 replace hb4 := hb4.ext he13
 have hc28 := hb4.cells (o := 0) (cs := [(.bool sx), vx, ux]) rfl
 refine rV (r_loada (o := 0) (cs := [(.bool sx), vx, ux]) uT44 ag44 ty44 rfl hc28) ?_
 replace hx := hx.tr (Sm.ext he13)
 replace hdx := hdx.tr (Sm.ext he13)
 refine RL.call rfl rfl dC (r_call (vl := [(.agg #[(.bool sx), vx, ux])]) ent57 rfl) (q_parts hx (by assumption) oS hdx (by assumption) oS (show ratOf sx (val x) (val dx) = qx from ex)) ?_
 rintro _ w29 ⟨⟨sX, vnX, vdX, xnX, xdX, rfl, hnX, lmnX, lnnX, hdX, lmdX, lndX, nzX, eqX⟩, he30⟩
 replace hE := hE.nx he30
 refine rV (r_extract (v := (.agg #[(.bool sX), vnX])) rfl rfl) (rV (r_extract (v := vdX) rfl rfl) ?_)
 refine RL.call rfl rfl dC (r_call (vl := [(.agg #[(.bool sX), vnX]), vdX]) ent61 rfl) (q_lowest hnX lmnX oS rfl hdX lmdX oS (by first | assumption | exact hnz)) ?_
 rintro vv39 w31 ⟨⟨vn33, vd35, hv40, hn34, hd36, hl37, hl38⟩, he32⟩
 subst hv40
 have hlv41 := den_one (Rat.divInt (sg sX (val xnX)) (((val xdX) : Nat) : Int))
 replace hn34 := hn34.fr hE
 replace hd36 := hd36.fr hE
 have hm46 := Ext.trans he13 (Ext.trans he30 he32)
 replace hb9 := hb9.ext hm46
 refine RL.runs rfl rfl (h_stA (cs := [(bd ((Rat.divInt (sg sX (val xnX)) (((val xdX) : Nat) : Int)).num < 0)), vn33, vd35]) (o := 0) ty44 rfl rfl rfl rfl (one_cons rfl (one_cons hn34.one (one_cons hd36.one one_nil))) hb9 bL) ?_
 rintro w42 ⟨hn43, hx44, hz45⟩
 replace hE := (hE.nx he32).nb hx44 ge_b7
 have nb_hx44 := (Nb.of hb9 (nu_cons rfl (nu_cons rfl (nu_cons rfl nu_nil))))
 replace hb9 : Bk w42 b7 44 [(bd ((Rat.divInt (sg sX (val xnX)) (((val xdX) : Nat) : Int)).num < 0)), vn33, vd35] := hn43
 refine RL.nil ?_
 refine wret ?_
 refine ⟨[(.agg #[(bd ((Rat.divInt (sg sX (val xnX)) (((val xdX) : Nat) : Int)).num < 0)), vn33, vd35])], ⟨⟨_, _, [(bd ((Rat.divInt (sg sX (val xnX)) (((val xdX) : Nat) : Int)).num < 0)), vn33, vd35], rfl, ⟨_, uT44⟩, hb9.cells rfl, .inl ⟨ag44, ⟨_, _, ty44⟩, rfl⟩⟩, trivial⟩, ?_⟩
 have hq : (Rat.divInt (sg sX (val xnX)) (((val xdX) : Nat) : Int)) = qx := by first | exact (hsX hok).2.2.2.2 | exact eqX
 replace hn34 := hn34.apn hx44 nb_hx44
 replace hd36 := hd36.apn hx44 nb_hx44
 exact ⟨⟨_, _, agg3 (congrArg (fun z : Rat => decide (z.num < 0)) hq), by rw [← hq]; exact hn34, by rw [← hq]; exact hd36, by omega, by omega⟩, hE⟩
set_option maxHeartbeats 1000000 in
theorem q_from {w : World} {k : Int} (hk : -9223372036854775808 ≤ k ∧ k ≤ 9223372036854775807) :
    Calls Tryz.prog 42 #[(iv k)] w fun e w' => ∃ v, e = .returned v ∧ (∃ vn vd, v = .agg #[.bool (decide (((k : Int) : Rat).num < 0)), vn, vd] ∧ Sg (gN .u32) (fun b T => w.heap.size ≤ b ∧ T = 89) w' vn (digs ((k : Int) : Rat).num.natAbs) ∧ Sg (gN .u32) (fun b T => w.heap.size ≤ b ∧ T = 89) w' vd (digs ((k : Int) : Rat).den) ∧ (digs ((k : Int) : Rat).num.natAbs).length ≤ 2 ∧ (digs ((k : Int) : Rat).den).length ≤ 1) ∧ Ext w w' := by
 have hE : Below w.heap.size w w := Below.refl _ _
 refine calls_of (n := 7) (rs := [.cell 2 44]) func42 rfl rfl rfl bL ?_
 refine wset fun F0 hF0 => ?_
 refine wsr ?_
 refine rU (h_alloc (cs := [(.bool false), (.slice none 0 0), (.slice none 0 0)]) ty44 rfl) ?_
 rintro _ w1 ⟨b2, rfl, hs5, hb4, he3⟩
 have ge_b2 := hE.ge hs5
 replace hE := hE.nx he3
 refine RL.nil (wsr (mV (v := (iv k)) (hF0 0) ?_))
 refine cL ent64 (i_from oM) rfl ?_
 rintro _ w6 ⟨⟨vr8, rfl, hr9, hl10⟩, he7⟩
 replace hr9 := hr9.fr hE
 replace hE := hE.nx he7
 refine rU (h_lit (vl := [(0, (.int .u32 1))]) (cs := [(.int .u32 1)]) uT40 ty89 rfl dC (by first | (simp [Instr.fill, Value.cells]; done) | rfl | kernel_rfl)) ?_
 rintro _ w11 ⟨b12, rfl, hs15, hb14, he13⟩
 replace hb4 := hb4.ext he7
 have lt_b2_b12 := Nat.lt_of_lt_of_eq hb4.lt hs15.symm
 have ge_b12 := hE.ge hs15
 refine rV (r_build (vl := [(0, (.agg #[(bd (k < 0)), vr8])), (1, (.slice (some ⟨b12, 0, none⟩) (1) (1)))]) (cs := [(bd (k < 0)), vr8, (.slice (some ⟨b12, 0, none⟩) (1) (1))]) uT44 ty44 rfl (pl44 uT44) rfl) ?_
 replace hb4 := hb4.ext he13
 refine RL.runs rfl rfl (h_stA (cs := [(bd (k < 0)), vr8, (.slice (some ⟨b12, 0, none⟩) (1) (1))]) (o := 0) ty44 rfl rfl rfl rfl (one_cons rfl (one_cons hr9.one (one_cons rfl one_nil))) hb4 bL) ?_
 rintro w16 ⟨hn17, hx18, hz19⟩
 replace hE := (hE.nx he13).nb hx18 ge_b2
 have nb_hx18 := (Nb.of hb4 (nu_cons rfl (nu_cons rfl (nu_cons rfl nu_nil))))
 replace hb4 : Bk w16 b2 44 [(bd (k < 0)), vr8, (.slice (some ⟨b12, 0, none⟩) (1) (1))] := hn17
 refine RL.nil ?_
 refine wret ?_
 refine ⟨[(.agg #[(bd (k < 0)), vr8, (.slice (some ⟨b12, 0, none⟩) (1) (1))])], ⟨⟨_, _, [(bd (k < 0)), vr8, (.slice (some ⟨b12, 0, none⟩) (1) (1))], rfl, ⟨_, uT44⟩, hb4.cells rfl, .inl ⟨ag44, ⟨_, _, ty44⟩, rfl⟩⟩, trivial⟩, ?_⟩
 replace hr9 := (hr9.tr (Sm.ext he13)).apn hx18 nb_hx18
 replace hb14 := hb14.exc hx18 (Nat.ne_of_gt lt_b2_b12)
 exact ⟨⟨_, _, agg3 (by rw [Rat.num_intCast]), by rw [Rat.num_intCast]; exact hr9, by rw [Rat.den_intCast]; exact hb14.sg (g := gN .u32) (D := (fun b T => w.heap.size ≤ b ∧ T = 89)) (xs := [1]) ⟨ge_b12, rfl⟩ rfl rfl dC, by rw [Rat.num_intCast]; omega, Nat.le_refl _⟩, hE⟩
set_option maxHeartbeats 1000000 in
theorem q_sign {w : World} {sx : Bool} {Dx Ex : Nat → TypeId → Prop} {vx ux : Value} {x dx : List Nat} (hx : Sg (gN .u32) Dx w vx x) (lmx : Lm x) (lnx : x.length ≤ 17179869184) (hdx : Sg (gN .u32) Ex w ux dx) (lmdx : Lm dx) (lndx : dx.length ≤ 17179869184) {qx : Rat} (ex : ratOf sx (val x) (val dx) = qx) :
    Calls Tryz.prog 37 #[(.agg #[(.bool sx), vx, ux])] w fun e w' => ∃ v, e = .returned v ∧ v = .int .i64 (Int.sign qx.num) ∧ Ext w w' := by
 have hE : Below w.heap.size w w := Below.refl _ _
 have hlqx := rl_of lmx lmdx ex
 have hdqx := den_one qx
 refine calls_of (n := 12) (rs := [.tmp 2]) func37 rfl rfl rfl bL ?_
 refine wset fun F0 hF0 => ?_
 refine wsr ?_
 refine rU (h_bxA (cs := [(.bool sx), vx, ux]) (hF0 0) rfl) ?_
 rintro _ w1 ⟨b2, rfl, hs5, hb4, he3⟩
 have ge_b2 := hE.ge hs5
 refine aS (v := (iv 0)) rfl (RL.nil (wsr ?_))
 have hc6 := hb4.cells (o := 0) (cs := [(.bool sx), vx, ux]) rfl
 refine rV (r_loada (o := 0) (cs := [(.bool sx), vx, ux]) uT44 ag44 ty44 rfl hc6) ?_
 replace hx := hx.tr (Sm.ext he3)
 replace hdx := hdx.tr (Sm.ext he3)
 refine RL.call rfl rfl dC (r_call (vl := [(.agg #[(.bool sx), vx, ux])]) ent57 rfl) (q_parts hx (by assumption) oS hdx (by assumption) oS (show ratOf sx (val x) (val dx) = qx from ex)) ?_
 rintro _ w7 ⟨⟨sX, vnX, vdX, xnX, xdX, rfl, hnX, lmnX, lnnX, hdX, lmdX, lndX, nzX, eqX⟩, he8⟩
 replace hE := (hE.nx he3).nx he8
 refine mV (v := (.tuple #[(.agg #[(.bool sX), vnX]), vdX])) rfl (rV (r_extract (v := (.agg #[(.bool sX), vnX])) rfl rfl) (rV (r_extract (v := vdX) rfl rfl) ?_))
 refine rU (h_alloc (cs := [(.bool false), (.slice none 0 0)]) ty42 rfl) ?_
 rintro _ w9 ⟨b10, rfl, hs13, hb12, he11⟩
 replace hb4 := hb4.ext he8
 have lt_b2_b10 := Nat.lt_of_lt_of_eq hb4.lt hs13.symm
 have ge_b10 := hE.ge hs13
 refine RL.runs rfl rfl (h_stA (cs := [(.bool sX), vnX]) (o := 0) ty42 rfl rfl rfl rfl (one_cons rfl (one_cons hnX.one one_nil)) hb12 bL) ?_
 rintro w14 ⟨hn15, hx16, hz17⟩
 have nb_hx16 := (Nb.of hb12 (nu_cons rfl (nu_cons rfl nu_nil)))
 replace hb12 : Bk w14 b10 42 [(.bool sX), vnX] := hn15
 refine aS (v := vdX) rfl (RL.nil (wsr ?_))
 have hc18 := hb12.cells (o := 0) (cs := [(.bool sX), vnX]) rfl
 refine rV (r_loada (o := 0) (cs := [(.bool sX), vnX]) uT42 ag42 ty42 rfl hc18) ?_
 replace hnX := (hnX.tr (Sm.ext he11)).apn hx16 nb_hx16
 refine RL.call rfl rfl dC (r_call (vl := [(.agg #[(.bool sX), vnX])]) ent58 rfl) (i_sign hnX lmnX oS rfl) ?_
 rintro _ w19 ⟨rfl, he20⟩
 replace hE := ((hE.nx he11).nb hx16 ge_b10).nx he20
 refine aS (v := (iv (Int.sign (sg sX (val xnX))))) rfl (RL.nil ?_)
 refine wret ?_
 refine ⟨[(iv (Int.sign (sg sX (val xnX))))], ⟨rfl, trivial⟩, ?_⟩
 exact ⟨int_eq (rat_sign nzX eqX), hE⟩
end Go.Proofs.YtelbjmhhbeijkaaGreat
namespace Go.Proofs.YtelbjmhhbeijkaaGreat
open Go.Vg Go.RowKit _root_.Go.Proofs.Tryz
set_option linter.unusedVariables false
open Go.Vm
set_option maxHeartbeats 4000000 in
theorem q_add {w : World} {sx : Bool} {Dx Ex : Nat → TypeId → Prop} {vx ux : Value} {x dx : List Nat} (hx : Sg (gN .u32) Dx w vx x) (lmx : Lm x) (lnx : x.length ≤ 17179869184) (hdx : Sg (gN .u32) Ex w ux dx) (lmdx : Lm dx) (lndx : dx.length ≤ 17179869184) {qx : Rat} (ex : ratOf sx (val x) (val dx) = qx) {sy : Bool} {Dy Ey : Nat → TypeId → Prop} {vy uy : Value} {y dy : List Nat} (hy : Sg (gN .u32) Dy w vy y) (lmy : Lm y) (lny : y.length ≤ 17179869184) (hdy : Sg (gN .u32) Ey w uy dy) (lmdy : Lm dy) (lndy : dy.length ≤ 17179869184) {qy : Rat} (ey : ratOf sy (val y) (val dy) = qy) :
    Calls Tryz.prog 46 #[(.agg #[(.bool sx), vx, ux]), (.agg #[(.bool sy), vy, uy])] w fun e w' => ∃ v, e = .returned v ∧ (∃ vn vd, v = .agg #[.bool (decide ((qx + qy).num < 0)), vn, vd] ∧ Sg (gN .u32) (fun b T => w.heap.size ≤ b ∧ T = 89) w' vn (digs (qx + qy).num.natAbs) ∧ Sg (gN .u32) (fun b T => w.heap.size ≤ b ∧ T = 89) w' vd (digs (qx + qy).den) ∧ (digs (qx + qy).num.natAbs).length ≤ max (x.length + dy.length) (y.length + dx.length) + 2 ∧ (digs (qx + qy).den).length ≤ dx.length + dy.length + 3) ∧ Ext w w' := by
 have hE : Below w.heap.size w w := Below.refl _ _
 have hlqx := rl_of lmx lmdx ex
 have hdqx := den_one qx
 have hlqy := rl_of lmy lmdy ey
 have hdqy := den_one qy
 refine calls_of (n := 86) (rs := [.cell 4 44]) func46 rfl rfl rfl bL ?_
 refine wset fun F0 hF0 => ?_
 refine wsr ?_
 refine rU (h_bxA (cs := [(.bool sx), vx, ux]) (hF0 0) rfl) ?_
 rintro _ w1 ⟨b2, rfl, hs5, hb4, he3⟩
 have ge_b2 := hE.ge hs5
 replace hE := hE.nx he3
 refine rU (h_bxA (cs := [(.bool sy), vy, uy]) (hF0 1) rfl) ?_
 rintro _ w6 ⟨b7, rfl, hs10, hb9, he8⟩
 have lt_b2_b7 := Nat.lt_of_lt_of_eq hb4.lt hs10.symm
 have ge_b7 := hE.ge hs10
 replace hE := hE.nx he8
 refine rU (h_alloc (cs := [(.bool false), (.slice none 0 0), (.slice none 0 0)]) ty44 rfl) ?_
 rintro _ w11 ⟨b12, rfl, hs15, hb14, he13⟩
 have lt_b7_b12 := Nat.lt_of_lt_of_eq hb9.lt hs15.symm
 have ge_b12 := hE.ge hs15
 refine RL.nil (wseq (wsr ?_))
 replace hb4 := hb4.ext (Ext.trans he8 he13)
 have hc16 := hb4.cells (o := 0) (cs := [(.bool sx), vx, ux]) rfl
 refine rV (r_loada (o := 0) (cs := [(.bool sx), vx, ux]) uT44 ag44 ty44 rfl hc16) ?_
 have hm19 := Ext.trans he3 (Ext.trans he8 he13)
 replace hx := hx.tr (Sm.ext hm19)
 replace hdx := hdx.tr (Sm.ext hm19)
 refine RL.call rfl rfl dC (r_call (vl := [(.agg #[(.bool sx), vx, ux])]) ent37 rfl) (q_sign hx (by assumption) oS hdx (by assumption) oS (show ratOf sx (val x) (val dx) = qx from ex)) ?_
 rintro _ w17 ⟨rfl, he18⟩
 replace hE := (hE.nx he13).nx he18
 refine rV (r_eql (k := .i64) (a := Int.sign qx.num) (b := 0) rfl rfl) (RL.nil ?_)
 refine wcD (p := (Int.sign qx.num) = 0) rfl (fun hb20 hb20p => ?_) (fun hb20 hb20p => ?_)
 ·have hx0 : qx = 0 := (sign_eq qx).1 hb20p
  refine wsr ?_
  replace hb9 := hb9.ext (Ext.trans he13 he18)
  have hc21 := hb9.cells (o := 0) (cs := [(.bool sy), vy, uy]) rfl
  refine rV (r_loada (o := 0) (cs := [(.bool sy), vy, uy]) uT44 ag44 ty44 rfl hc21) ?_
  have hm30 := Ext.trans hm19 he18
  replace hy := hy.tr (Sm.ext hm30)
  replace hdy := hdy.tr (Sm.ext hm30)
  refine RL.call rfl rfl dC (r_call (vl := [(.agg #[(.bool sy), vy, uy])]) ent38 rfl) (q_norm hy (by assumption) oS hdy (by assumption) oS (show ratOf sy (val y) (val dy) = qy from ey)) ?_
  rintro _ w22 ⟨⟨vn24, vd26, rfl, hn25, hd27, hl28, hl29⟩, he23⟩
  have hlv31 := den_one qy
  replace hn25 := hn25.fr hE
  replace hd27 := hd27.fr hE
  replace hb14 := hb14.ext (Ext.trans he18 he23)
  refine RL.runs rfl rfl (h_stA (cs := [(bd (qy.num < 0)), vn24, vd26]) (o := 0) ty44 rfl rfl rfl rfl (one_cons rfl (one_cons hn25.one (one_cons hd27.one one_nil))) hb14 bL) ?_
  rintro w32 ⟨hn33, hx34, hz35⟩
  replace hE := (hE.nx he23).nb hx34 ge_b12
  have nb_hx34 := (Nb.of hb14 (nu_cons rfl (nu_cons rfl (nu_cons rfl nu_nil))))
  replace hb14 : Bk w32 b12 44 [(bd (qy.num < 0)), vn24, vd26] := hn33
  refine RL.nil ?_
  refine wret ?_
  refine ⟨[(.agg #[(bd (qy.num < 0)), vn24, vd26])], ⟨⟨_, _, [(bd (qy.num < 0)), vn24, vd26], rfl, ⟨_, uT44⟩, hb14.cells rfl, .inl ⟨ag44, ⟨_, _, ty44⟩, rfl⟩⟩, trivial⟩, ?_⟩
  have hlr := radd_len qx qy
  have hq : qy = (qx + qy) := by first | (rw [hx0, Rat.zero_add]; done) | (rw [hy0, Rat.add_zero]; done) | exact radd_small hsx1.2.2.1 hsy1.2.2.1 hsx1.2.2.2.2 hsy1.2.2.2.2 | exact radd_same oM eqX (by rw [hxd]; exact eqY) | (rw [Int.natCast_mul]; exact radd_small (by rw [sg_f]; omega) (by rw [sg_f]; omega) eqX eqY)
  replace hn25 := hn25.apn hx34 nb_hx34
  replace hd27 := hd27.apn hx34 nb_hx34
  exact ⟨⟨_, _, agg3 (congrArg (fun z : Rat => decide (z.num < 0)) hq), by rw [← hq]; exact hn25, by rw [← hq]; exact hd27, by omega, by omega⟩, hE⟩
 refine wskip ?_
 refine wseq (wsr ?_)
 replace hb9 := hb9.ext (Ext.trans he13 he18)
 have hc36 := hb9.cells (o := 0) (cs := [(.bool sy), vy, uy]) rfl
 refine rV (r_loada (o := 0) (cs := [(.bool sy), vy, uy]) uT44 ag44 ty44 rfl hc36) ?_
 have hm39 := Ext.trans hm19 he18
 replace hy := hy.tr (Sm.ext hm39)
 replace hdy := hdy.tr (Sm.ext hm39)
 refine RL.call rfl rfl dC (r_call (vl := [(.agg #[(.bool sy), vy, uy])]) ent37 rfl) (q_sign hy (by assumption) oS hdy (by assumption) oS (show ratOf sy (val y) (val dy) = qy from ey)) ?_
 rintro _ w37 ⟨rfl, he38⟩
 replace hE := hE.nx he38
 refine rV (r_eql (k := .i64) (a := Int.sign qy.num) (b := 0) rfl rfl) (RL.nil ?_)
 refine wcD (p := (Int.sign qy.num) = 0) rfl (fun hb40 hb40p => ?_) (fun hb40 hb40p => ?_)
 ·have hy0 : qy = 0 := (sign_eq qy).1 hb40p
  refine wsr ?_
  replace hb4 := hb4.ext (Ext.trans he18 he38)
  have hc41 := hb4.cells (o := 0) (cs := [(.bool sx), vx, ux]) rfl
  refine rV (r_loada (o := 0) (cs := [(.bool sx), vx, ux]) uT44 ag44 ty44 rfl hc41) ?_
  replace hx := hx.tr (Sm.ext (Ext.trans he18 he38))
  replace hdx := hdx.tr (Sm.ext (Ext.trans he18 he38))
  refine RL.call rfl rfl dC (r_call (vl := [(.agg #[(.bool sx), vx, ux])]) ent38 rfl) (q_norm hx (by assumption) oS hdx (by assumption) oS (show ratOf sx (val x) (val dx) = qx from ex)) ?_
  rintro _ w42 ⟨⟨vn44, vd46, rfl, hn45, hd47, hl48, hl49⟩, he43⟩
  have hlv50 := den_one qx
  replace hn45 := hn45.fr hE
  replace hd47 := hd47.fr hE
  have hm55 := Ext.trans he18 (Ext.trans he38 he43)
  replace hb14 := hb14.ext hm55
  refine RL.runs rfl rfl (h_stA (cs := [(bd (qx.num < 0)), vn44, vd46]) (o := 0) ty44 rfl rfl rfl rfl (one_cons rfl (one_cons hn45.one (one_cons hd47.one one_nil))) hb14 bL) ?_
  rintro w51 ⟨hn52, hx53, hz54⟩
  replace hE := (hE.nx he43).nb hx53 ge_b12
  have nb_hx53 := (Nb.of hb14 (nu_cons rfl (nu_cons rfl (nu_cons rfl nu_nil))))
  replace hb14 : Bk w51 b12 44 [(bd (qx.num < 0)), vn44, vd46] := hn52
  refine RL.nil ?_
  refine wret ?_
  refine ⟨[(.agg #[(bd (qx.num < 0)), vn44, vd46])], ⟨⟨_, _, [(bd (qx.num < 0)), vn44, vd46], rfl, ⟨_, uT44⟩, hb14.cells rfl, .inl ⟨ag44, ⟨_, _, ty44⟩, rfl⟩⟩, trivial⟩, ?_⟩
  have hlr := radd_len qx qy
  have hq : qx = (qx + qy) := by first | (rw [hx0, Rat.zero_add]; done) | (rw [hy0, Rat.add_zero]; done) | exact radd_small hsx1.2.2.1 hsy1.2.2.1 hsx1.2.2.2.2 hsy1.2.2.2.2 | exact radd_same oM eqX (by rw [hxd]; exact eqY) | (rw [Int.natCast_mul]; exact radd_small (by rw [sg_f]; omega) (by rw [sg_f]; omega) eqX eqY)
  replace hn45 := hn45.apn hx53 nb_hx53
  replace hd47 := hd47.apn hx53 nb_hx53
  exact ⟨⟨_, _, agg3 (congrArg (fun z : Rat => decide (z.num < 0)) hq), by rw [← hq]; exact hn45, by rw [← hq]; exact hd47, by omega, by omega⟩, hE⟩
 refine wskip ?_
 refine wsr ?_
 replace hb4 := hb4.ext (Ext.trans he18 he38)
 have hc56 := hb4.cells (o := 0) (cs := [(.bool sx), vx, ux]) rfl
 refine rV (r_loada (o := 0) (cs := [(.bool sx), vx, ux]) uT44 ag44 ty44 rfl hc56) ?_
 replace hx := hx.tr (Sm.ext (Ext.trans he18 he38))
 replace hdx := hdx.tr (Sm.ext (Ext.trans he18 he38))
 refine RL.call rfl rfl dC (r_call (vl := [(.agg #[(.bool sx), vx, ux])]) ent59 rfl) (q_small hx (by assumption) oS hdx (by assumption) oS (show ratOf sx (val x) (val dx) = qx from ex)) ?_
 rintro _ w57 ⟨⟨nX, dX, okX, rfl, hsX⟩, he58⟩
 refine mV (v := (.tuple #[(iv nX), (iv dX), (.bool okX)])) rfl (rV (r_extract (v := (iv nX)) rfl rfl) (rV (r_extract (v := (iv dX)) rfl rfl) (rV (r_extract (v := (.bool okX)) rfl rfl) (aS (v := (iv nX)) rfl (aS (v := (iv dX)) rfl (aS (v := (.bool okX)) rfl (RL.nil (wsr ?_))))))))
 replace hb9 := hb9.ext (Ext.trans he38 he58)
 have hc59 := hb9.cells (o := 0) (cs := [(.bool sy), vy, uy]) rfl
 refine rV (r_loada (o := 0) (cs := [(.bool sy), vy, uy]) uT44 ag44 ty44 rfl hc59) ?_
 replace hy := hy.tr (Sm.ext (Ext.trans he38 he58))
 replace hdy := hdy.tr (Sm.ext (Ext.trans he38 he58))
 refine RL.call rfl rfl dC (r_call (vl := [(.agg #[(.bool sy), vy, uy])]) ent59 rfl) (q_small hy (by assumption) oS hdy (by assumption) oS (show ratOf sy (val y) (val dy) = qy from ey)) ?_
 rintro _ w60 ⟨⟨nY, dY, okY, rfl, hsY⟩, he61⟩
 replace hE := (hE.nx he58).nx he61
 refine mV (v := (.tuple #[(iv nY), (iv dY), (.bool okY)])) rfl (rV (r_extract (v := (iv nY)) rfl rfl) (rV (r_extract (v := (iv dY)) rfl rfl) (rV (r_extract (v := (.bool okY)) rfl rfl) (aS (v := (iv nY)) rfl (aS (v := (iv dY)) rfl (aS (v := (.bool okY)) rfl (RL.nil (wseq ?_))))))))
 refine wset fun F62 hF63 => ?_
 refine wcut (fun fl wl => ∃ t : Bool, Off [38, 39, 40, 41] F62 fl ∧ fl 41 = (.bool t) ∧ (t = true → okX = true ∧ okY = true) ∧ (Sg (gN .u32) Dx wl vx x) ∧ (Sg (gN .u32) Dy wl vy y) ∧ (Sg (gN .u32) Ex wl ux dx) ∧ (Sg (gN .u32) Ey wl uy dy) ∧ (Below w.heap.size w wl) ∧ (Bk wl b2 44 [(.bool sx), vx, ux]) ∧ (Bk wl b7 44 [(.bool sy), vy, uy]) ∧ (Bk wl b12 44 [(.bool false), (.slice none 0 0), (.slice none 0 0)])) ?_ ?_
 ·have G64 := Off.refl [38, 39, 40, 41] F62
  refine wregion (mV (v := (.bool okX)) (hF63 7) (mV (v := (.bool okX)) rfl ?_))
  rcases Bool.eq_false_or_eq_true (okX) with hb65 | hb65
  ·have hb65p := hb65
   have hokX := hb65
   refine RL.gval rfl rfl (bool_eq hb65) rfl dC (r_move_as (v := (.bool okY)) (hF63 10)) ?_
   refine rV (r_pick_t (v := (.bool okY)) (bool_eq hb65) rfl) (RL.nil ?_)
   replace hx := hx.tr (Sm.ext (Ext.trans he58 he61))
   replace hy := hy.tr (Sm.ext he61)
   replace hdx := hdx.tr (Sm.ext (Ext.trans he58 he61))
   replace hdy := hdy.tr (Sm.ext he61)
   replace hb4 := hb4.ext (Ext.trans he58 he61)
   replace hb9 := hb9.ext he61
   have hm66 := Ext.trans he18 (Ext.trans he38 (Ext.trans he58 he61))
   replace hb14 := hb14.ext hm66
   refine ⟨okY, ?_, ?_, ?_, ?_, ?_, ?_, ?_, ?_, ?_, ?_, ?_⟩
   · exact (by repeat (first | exact G64 | refine Off.st ?_ dC _))
   · rfl
   · exact fun h => ⟨hokX, h⟩
   · exact hx
   · exact hy
   · exact hdx
   · exact hdy
   · exact hE
   · exact hb4
   · exact hb9
   exact hb14
  have hb65p := hb65
  refine RL.gno rfl rfl (bool_eq hb65) rfl dC ?_
  refine rV (r_pick_f (v := (.bool false)) (bool_eq hb65) rfl) (RL.nil ?_)
  replace hx := hx.tr (Sm.ext (Ext.trans he58 he61))
  replace hy := hy.tr (Sm.ext he61)
  replace hdx := hdx.tr (Sm.ext (Ext.trans he58 he61))
  replace hdy := hdy.tr (Sm.ext he61)
  replace hb4 := hb4.ext (Ext.trans he58 he61)
  replace hb9 := hb9.ext he61
  have hm67 := Ext.trans he18 (Ext.trans he38 (Ext.trans he58 he61))
  replace hb14 := hb14.ext hm67
  refine ⟨false, ?_, ?_, ?_, ?_, ?_, ?_, ?_, ?_, ?_, ?_, ?_⟩
  · exact (by repeat (first | exact G64 | refine Off.st ?_ dC _))
  · rfl
  · exact fun h => by cases h
  · exact hx
  · exact hy
  · exact hdx
  · exact hdy
  · exact hE
  · exact hb4
  · exact hb9
  exact hb14
 clear hx hy hdx hdy hE hb4 hb9 hb14
 rintro f68 w69 ⟨t, G70, hs71, ht, hx, hy, hdx, hdy, hE, hb4, hb9, hb14⟩
 refine wcond (b := t) hs71 (fun hb72 => ?_) (fun hb72 => ?_)
 ·have hb72p := hb72
  have hsx1 := hsX (ht hb72).1
  have hsy1 := hsY (ht hb72).2
  refine wseq ?_
  have hm1 := mul31 (a := nX) (b := dY) ⟨by omega, by omega⟩ ⟨by omega, by omega⟩
  have hm2 := mul31 (a := nY) (b := dX) ⟨by omega, by omega⟩ ⟨by omega, by omega⟩
  have hm3 := mul31 (a := dX) (b := dY) ⟨by omega, by omega⟩ ⟨by omega, by omega⟩
  have hm4 := mul31 (a := nX) (b := nY) ⟨by omega, by omega⟩ ⟨by omega, by omega⟩
  have hmp := Int.mul_pos hsx1.2.2.1 hsy1.2.2.1
  refine wregion (mV (v := (iv nX)) ((G70 5 rfl).trans (hF63 5)) (mV (v := (iv dY)) ((G70 9 rfl).trans (hF63 9)) (rV (r_mul (k := .i64) (a := nX) (b := dY) (c := nX * dY) rfl rfl (wi64 oM)) (mV (v := (iv nY)) ((G70 8 rfl).trans (hF63 8)) (mV (v := (iv dX)) ((G70 6 rfl).trans (hF63 6)) (rV (r_mul (k := .i64) (a := nY) (b := dX) (c := nY * dX) rfl rfl (wi64 oM)) (rV (r_add (k := .i64) (a := nX * dY) (b := nY * dX) (c := (nX * dY) + (nY * dX)) rfl rfl (wi64 oM)) (mV (v := (iv dX)) ((G70 6 rfl).trans (hF63 6)) (mV (v := (iv dY)) ((G70 9 rfl).trans (hF63 9)) (rV (r_mul (k := .i64) (a := dX) (b := dY) (c := dX * dY) rfl rfl (wi64 oM)) ?_))))))))))
  refine cL ent60 (q_quot oM oM) rfl ?_
  rintro _ w73 ⟨⟨vn75, vd77, rfl, hn76, hd78, hl79, hl80⟩, he74⟩
  have hlv81 := den_one (Rat.divInt ((nX * dY) + (nY * dX)) (dX * dY))
  replace hn76 := hn76.fr hE
  replace hd78 := hd78.fr hE
  replace hb14 := hb14.ext he74
  refine RL.runs rfl rfl (h_stA (cs := [(bd ((Rat.divInt ((nX * dY) + (nY * dX)) (dX * dY)).num < 0)), vn75, vd77]) (o := 0) ty44 ((G70 4 rfl).trans (hF63 4)) rfl rfl rfl (one_cons rfl (one_cons hn76.one (one_cons hd78.one one_nil))) hb14 bL) ?_
  rintro w82 ⟨hn83, hx84, hz85⟩
  replace hE := (hE.nx he74).nb hx84 ge_b12
  have nb_hx84 := (Nb.of hb14 (nu_cons rfl (nu_cons rfl (nu_cons rfl nu_nil))))
  replace hb14 : Bk w82 b12 44 [(bd ((Rat.divInt ((nX * dY) + (nY * dX)) (dX * dY)).num < 0)), vn75, vd77] := hn83
  refine RL.nil ?_
  refine wret ?_
  refine ⟨[(.agg #[(bd ((Rat.divInt ((nX * dY) + (nY * dX)) (dX * dY)).num < 0)), vn75, vd77])], ⟨⟨_, _, [(bd ((Rat.divInt ((nX * dY) + (nY * dX)) (dX * dY)).num < 0)), vn75, vd77], ((G70 4 rfl).trans (hF63 4)), ⟨_, uT44⟩, hb14.cells rfl, .inl ⟨ag44, ⟨_, _, ty44⟩, rfl⟩⟩, trivial⟩, ?_⟩
  have hlr := radd_len qx qy
  have hq : (Rat.divInt ((nX * dY) + (nY * dX)) (dX * dY)) = (qx + qy) := by first | (rw [hx0, Rat.zero_add]; done) | (rw [hy0, Rat.add_zero]; done) | exact radd_small hsx1.2.2.1 hsy1.2.2.1 hsx1.2.2.2.2 hsy1.2.2.2.2 | exact radd_same oM eqX (by rw [hxd]; exact eqY) | (rw [Int.natCast_mul]; exact radd_small (by rw [sg_f]; omega) (by rw [sg_f]; omega) eqX eqY)
  replace hn76 := hn76.apn hx84 nb_hx84
  replace hd78 := hd78.apn hx84 nb_hx84
  exact ⟨⟨_, _, agg3 (congrArg (fun z : Rat => decide (z.num < 0)) hq), by rw [← hq]; exact hn76, by rw [← hq]; exact hd78, by omega, by omega⟩, hE⟩
 have hb72p := hb72
 refine wskip ?_
 refine wsr ?_
 have hc86 := hb4.cells (o := 0) (cs := [(.bool sx), vx, ux]) rfl
 refine rV (r_loada (o := 0) (cs := [(.bool sx), vx, ux]) uT44 ag44 ty44 ((G70 2 rfl).trans (hF63 2)) hc86) ?_
 refine RL.call rfl rfl dC (r_call (vl := [(.agg #[(.bool sx), vx, ux])]) ent57 rfl) (q_parts hx (by assumption) oS hdx (by assumption) oS (show ratOf sx (val x) (val dx) = qx from ex)) ?_
 rintro _ w87 ⟨⟨sX, vnX, vdX, xnX, xdX, rfl, hnX, lmnX, lnnX, hdX, lmdX, lndX, nzX, eqX⟩, he88⟩
 replace hE := hE.nx he88
 refine mV (v := (.tuple #[(.agg #[(.bool sX), vnX]), vdX])) rfl (rV (r_extract (v := (.agg #[(.bool sX), vnX])) rfl rfl) (rV (r_extract (v := vdX) rfl rfl) ?_))
 refine rU (h_alloc (cs := [(.bool false), (.slice none 0 0)]) ty42 rfl) ?_
 rintro _ w89 ⟨b90, rfl, hs93, hb92, he91⟩
 replace hb14 := hb14.ext he88
 have lt_b12_b90 := Nat.lt_of_lt_of_eq hb14.lt hs93.symm
 have ge_b90 := hE.ge hs93
 refine RL.runs rfl rfl (h_stA (cs := [(.bool sX), vnX]) (o := 0) ty42 rfl rfl rfl rfl (one_cons rfl (one_cons hnX.one one_nil)) hb92 bL) ?_
 rintro w94 ⟨hn95, hx96, hz97⟩
 have nb_hx96 := (Nb.of hb92 (nu_cons rfl (nu_cons rfl nu_nil)))
 replace hb92 : Bk w94 b90 42 [(.bool sX), vnX] := hn95
 refine aS (v := vdX) rfl (RL.nil (wsr ?_))
 replace hb9 := (hb9.ext (Ext.trans he88 he91)).exc hx96 (Nat.ne_of_lt (Nat.lt_trans lt_b7_b12 lt_b12_b90))
 have hc98 := hb9.cells (o := 0) (cs := [(.bool sy), vy, uy]) rfl
 refine rV (r_loada (o := 0) (cs := [(.bool sy), vy, uy]) uT44 ag44 ty44 ((G70 3 rfl).trans (hF63 3)) hc98) ?_
 replace hy := (hy.tr (Sm.ext (Ext.trans he88 he91))).apn hx96 nb_hx96
 replace hdy := (hdy.tr (Sm.ext (Ext.trans he88 he91))).apn hx96 nb_hx96
 refine RL.call rfl rfl dC (r_call (vl := [(.agg #[(.bool sy), vy, uy])]) ent57 rfl) (q_parts hy (by assumption) oS hdy (by assumption) oS (show ratOf sy (val y) (val dy) = qy from ey)) ?_
 rintro _ w99 ⟨⟨sY, vnY, vdY, xnY, xdY, rfl, hnY, lmnY, lnnY, hdY, lmdY, lndY, nzY, eqY⟩, he100⟩
 replace hE := ((hE.nx he91).nb hx96 ge_b90).nx he100
 refine mV (v := (.tuple #[(.agg #[(.bool sY), vnY]), vdY])) rfl (rV (r_extract (v := (.agg #[(.bool sY), vnY])) rfl rfl) (rV (r_extract (v := vdY) rfl rfl) ?_))
 refine rU (h_alloc (cs := [(.bool false), (.slice none 0 0)]) ty42 rfl) ?_
 rintro _ w101 ⟨b102, rfl, hs105, hb104, he103⟩
 replace hb92 := hb92.ext he100
 have lt_b90_b102 := Nat.lt_of_lt_of_eq hb92.lt hs105.symm
 have ge_b102 := hE.ge hs105
 refine RL.runs rfl rfl (h_stA (cs := [(.bool sY), vnY]) (o := 0) ty42 rfl rfl rfl rfl (one_cons rfl (one_cons hnY.one one_nil)) hb104 bL) ?_
 rintro w106 ⟨hn107, hx108, hz109⟩
 have nb_hx108 := (Nb.of hb104 (nu_cons rfl (nu_cons rfl nu_nil)))
 replace hb104 : Bk w106 b102 42 [(.bool sY), vnY] := hn107
 refine aS (v := vdY) rfl (RL.nil (wseq (wsr (mV (v := vdX) rfl (mV (v := vdY) rfl ?_)))))
 replace hdX := (((hdX.tr (Sm.ext he91)).apn hx96 nb_hx96).tr (Sm.ext (Ext.trans he100 he103))).apn hx108 nb_hx108
 replace hdY := (hdY.tr (Sm.ext he103)).apn hx108 nb_hx108
 refine cL ent67 (n_compare hdX lmdX oS hdY lmdY oS) rfl ?_
 rintro vq113 w110 ⟨hq112, he111⟩
 subst hq112
 replace hE := ((hE.nx he103).nb hx108 ge_b102).nx he111
 refine rV (r_eql (k := .i64) (a := cmpI (((val xdX) : Nat) : Int) (((val xdY) : Nat) : Int)) (b := 0) rfl rfl) (RL.nil ?_)
 refine wcD (p := (cmpI (((val xdX) : Nat) : Int) (((val xdY) : Nat) : Int)) = 0) rfl (fun hb114 hb114p => ?_) (fun hb114 hb114p => ?_)
 ·have hxd : val xdX = val xdY := by have h9 := cmpI_zero.1 hb114p; omega
  refine wsr ?_
  replace hb92 := ((hb92.ext he103).exc hx108 (Nat.ne_of_lt lt_b90_b102)).ext he111
  have hc115 := hb92.cells (o := 0) (cs := [(.bool sX), vnX]) rfl
  refine rV (r_loada (o := 0) (cs := [(.bool sX), vnX]) uT42 ag42 ty42 rfl hc115) ?_
  replace hb104 := hb104.ext he111
  have hc116 := hb104.cells (o := 0) (cs := [(.bool sY), vnY]) rfl
  refine rV (r_loada (o := 0) (cs := [(.bool sY), vnY]) uT42 ag42 ty42 rfl hc116) ?_
  replace hnX := ((((hnX.tr (Sm.ext he91)).apn hx96 nb_hx96).tr (Sm.ext (Ext.trans he100 he103))).apn hx108 nb_hx108).tr (Sm.ext he111)
  replace hnY := ((hnY.tr (Sm.ext he103)).apn hx108 nb_hx108).tr (Sm.ext he111)
  refine RL.call rfl rfl dC (r_call (vl := [(.agg #[(.bool sX), vnX]), (.agg #[(.bool sY), vnY])]) ent68 rfl) (i_add hnX lmnX oS rfl hnY lmnY oS rfl) ?_
  rintro _ w117 ⟨⟨vr119, rfl, hr120, hl121⟩, he118⟩
  replace hr120 := hr120.fr hE
  replace hE := hE.nx he118
  refine mV (v := vdX) rfl ?_
  replace hdX := hdX.tr (Sm.ext (Ext.trans he111 he118))
  refine RL.call rfl rfl dC (r_call (vl := [(.agg #[(bd (((sg sX (val xnX)) + (sg sY (val xnY))) < 0)), vr119]), vdX]) ent61 rfl) (q_lowest hr120 (digs_lm _) oS (sg_canon _) hdX lmdX oS (by first | assumption | exact hnz)) ?_
  rintro vv130 w122 ⟨⟨vn124, vd126, hv131, hn125, hd127, hl128, hl129⟩, he123⟩
  subst hv131
  have hlv132 := den_one (Rat.divInt ((sg sX (val xnX)) + (sg sY (val xnY))) (((val xdX) : Nat) : Int))
  replace hn125 := hn125.fr hE
  replace hd127 := hd127.fr hE
  have hm137 := Ext.trans he111 (Ext.trans he118 he123)
  replace hb14 := ((((hb14.ext he91).exc hx96 (Nat.ne_of_lt lt_b12_b90)).ext (Ext.trans he100 he103)).exc hx108 (Nat.ne_of_lt (Nat.lt_trans lt_b12_b90 lt_b90_b102))).ext hm137
  refine RL.runs rfl rfl (h_stA (cs := [(bd ((Rat.divInt ((sg sX (val xnX)) + (sg sY (val xnY))) (((val xdX) : Nat) : Int)).num < 0)), vn124, vd126]) (o := 0) ty44 ((G70 4 rfl).trans (hF63 4)) rfl rfl rfl (one_cons rfl (one_cons hn125.one (one_cons hd127.one one_nil))) hb14 bL) ?_
  rintro w133 ⟨hn134, hx135, hz136⟩
  replace hE := (hE.nx he123).nb hx135 ge_b12
  have nb_hx135 := (Nb.of hb14 (nu_cons rfl (nu_cons rfl (nu_cons rfl nu_nil))))
  replace hb14 : Bk w133 b12 44 [(bd ((Rat.divInt ((sg sX (val xnX)) + (sg sY (val xnY))) (((val xdX) : Nat) : Int)).num < 0)), vn124, vd126] := hn134
  refine RL.nil ?_
  refine wret ?_
  refine ⟨[(.agg #[(bd ((Rat.divInt ((sg sX (val xnX)) + (sg sY (val xnY))) (((val xdX) : Nat) : Int)).num < 0)), vn124, vd126])], ⟨⟨_, _, [(bd ((Rat.divInt ((sg sX (val xnX)) + (sg sY (val xnY))) (((val xdX) : Nat) : Int)).num < 0)), vn124, vd126], ((G70 4 rfl).trans (hF63 4)), ⟨_, uT44⟩, hb14.cells rfl, .inl ⟨ag44, ⟨_, _, ty44⟩, rfl⟩⟩, trivial⟩, ?_⟩
  have hlr := radd_len qx qy
  have hq : (Rat.divInt ((sg sX (val xnX)) + (sg sY (val xnY))) (((val xdX) : Nat) : Int)) = (qx + qy) := by first | (rw [hx0, Rat.zero_add]; done) | (rw [hy0, Rat.add_zero]; done) | exact radd_small hsx1.2.2.1 hsy1.2.2.1 hsx1.2.2.2.2 hsy1.2.2.2.2 | exact radd_same oM eqX (by rw [hxd]; exact eqY) | (rw [Int.natCast_mul]; exact radd_small (by rw [sg_f]; omega) (by rw [sg_f]; omega) eqX eqY)
  replace hn125 := hn125.apn hx135 nb_hx135
  replace hd127 := hd127.apn hx135 nb_hx135
  exact ⟨⟨_, _, agg3 (congrArg (fun z : Rat => decide (z.num < 0)) hq), by rw [← hq]; exact hn125, by rw [← hq]; exact hd127, by omega, by omega⟩, hE⟩
 refine wskip ?_
 refine wset fun F138 hF139 => ?_
 refine wcut (fun fl wl => ∃ b161 : Nat, ∃ vr146 : Value, ∃ vr151 : Value, ∃ vr157 : Value, Off (15 :: (rg 72 9 [])) F138 fl ∧ fl 15 = (.pointer (some ⟨b161, 0, none⟩)) ∧ (w.heap.size ≤ b161) ∧ (b102 < b161) ∧ (Sg (gN .u32) Dx wl vx x) ∧ (Sg (gN .u32) Dy wl vy y) ∧ (Sg (gN .u32) Ex wl ux dx) ∧ (Sg (gN .u32) Ey wl uy dy) ∧ (Below w.heap.size w wl) ∧ (Bk wl b2 44 [(.bool sx), vx, ux]) ∧ (Bk wl b7 44 [(.bool sy), vy, uy]) ∧ (Bk wl b12 44 [(.bool false), (.slice none 0 0), (.slice none 0 0)]) ∧ (Sg (gN .u32) (fun _ _ => True) wl vnX xnX) ∧ (Sg (gN .u32) (fun _ _ => True) wl vdX xdX) ∧ (Bk wl b90 42 [(.bool sX), vnX]) ∧ (Sg (gN .u32) (fun _ _ => True) wl vnY xnY) ∧ (Sg (gN .u32) (fun _ _ => True) wl vdY xdY) ∧ (Bk wl b102 42 [(.bool sY), vnY]) ∧ (Sg (gN .u32) (fun b T => w.heap.size ≤ b ∧ T = 89) wl vr146 (digs ((sg sX (val xnX)) * (sg false (val xdY))).natAbs)) ∧ (Sg (gN .u32) (fun b T => w.heap.size ≤ b ∧ T = 89) wl vr151 (digs ((sg sY (val xnY)) * (sg false (val xdX))).natAbs)) ∧ (Sg (gN .u32) (fun b T => w.heap.size ≤ b ∧ T = 89) wl vr157 (digs (((sg sX (val xnX)) * (sg false (val xdY))) + ((sg sY (val xnY)) * (sg false (val xdX)))).natAbs)) ∧ (Bk wl b161 42 [(bd ((((sg sX (val xnX)) * (sg false (val xdY))) + ((sg sY (val xnY)) * (sg false (val xdX)))) < 0)), vr157])) ?_ ?_
 ·have G170 := Off.refl (15 :: (rg 72 9 [])) F138
  refine wdraw mixed fun w171 he172 => ?_
  replace hE := hE.nx he172
  replace hb92 := ((hb92.ext he103).exc hx108 (Nat.ne_of_lt lt_b90_b102)).ext (Ext.trans he111 he172)
  have hc173 := hb92.cells (o := 0) (cs := [(.bool sX), vnX]) rfl
  refine aR 0 rfl (fun u hu => r_loada (o := 0) (cs := [(.bool sX), vnX]) uT42 ag42 ty42 (hF139 11) (fun j v hj => cell_ext hu (hc173 j v hj))) ?_
  refine aM 1 rfl (v := vdY) (hF139 14) ?_
  refine ra 2 rfl (fun _ => r_build (vl := [(1, vdY)]) (cs := [(.bool false), vdY]) uT42 ty42 rfl (pl42 uT42) (by obtain ⟨_, _, e0_, -, -⟩ := hdY.len; simp only [e0_]; rfl)) ?_
  replace hb104 := hb104.ext (Ext.trans he111 he172)
  have hc174 := hb104.cells (o := 0) (cs := [(.bool sY), vnY]) rfl
  refine aR 4 rfl (fun u hu => r_loada (o := 0) (cs := [(.bool sY), vnY]) uT42 ag42 ty42 (hF139 13) (fun j v hj => cell_ext hu (hc174 j v hj))) ?_
  refine aM 5 rfl (v := vdX) (hF139 12) ?_
  refine ra 6 rfl (fun _ => r_build (vl := [(1, vdX)]) (cs := [(.bool false), vdX]) uT42 ty42 rfl (pl42 uT42) (by obtain ⟨_, _, e0_, -, -⟩ := hdX.len; simp only [e0_]; rfl)) ?_
  refine RA.all [3, 9] kR rfl ?_
  replace hnX := ((((hnX.tr (Sm.ext he91)).apn hx96 nb_hx96).tr (Sm.ext (Ext.trans he100 he103))).apn hx108 nb_hx108).tr (Sm.ext (Ext.trans he111 he172))
  replace hdY := hdY.tr (Sm.ext (Ext.trans he111 he172))
  refine RS.call rfl rfl rfl dC (r_call (vl := [(.agg #[(.bool sX), vnX]), (.agg #[(.bool false), vdY])]) ent69 rfl) (i_mul hnX lmnX oS rfl hdY lmdY oS rfl) ?_ ?_
  ·rintro _ w175 ⟨⟨vr177, rfl, hr178, hl179⟩, he176⟩
   refine rm he176 ?_
   replace hr178 := hr178.fr hE
   replace hE := hE.nx he176
   refine RA.all [7, 9] kR rfl ?_
   have hm185 := Ext.trans he111 (Ext.trans he172 he176)
   replace hnY := ((hnY.tr (Sm.ext he103)).apn hx108 nb_hx108).tr (Sm.ext hm185)
   replace hdX := hdX.tr (Sm.ext hm185)
   refine RS.call rfl rfl rfl dC (r_call (vl := [(.agg #[(.bool sY), vnY]), (.agg #[(.bool false), vdX])]) ent69 rfl) (i_mul hnY lmnY oS rfl hdX lmdX oS rfl) ?_ ?_
   ·rintro _ w180 ⟨⟨vr182, rfl, hr183, hl184⟩, he181⟩
    refine rm he181 ?_
    replace hr183 := hr183.fr hE
    replace hE := hE.nx he181
    refine RA.all [8, 9] kR rfl ?_
    replace hr178 := hr178.tr (Sm.ext he181)
    refine RS.call rfl rfl rfl dC (r_call (vl := [(.agg #[(bd (((sg sX (val xnX)) * (sg false (val xdY))) < 0)), vr177]), (.agg #[(bd (((sg sY (val xnY)) * (sg false (val xdX))) < 0)), vr182])]) ent68 rfl) (i_add hr178 (digs_lm _) oS (sg_canon _) hr183 (digs_lm _) oS (sg_canon _)) ?_ ?_
    ·rintro _ w186 ⟨⟨vr188, rfl, hr189, hl190⟩, he187⟩
     refine rm he187 ?_
     replace hr189 := hr189.fr hE
     replace hE := hE.nx he187
     refine RA.all [9] kR rfl ?_
     refine RS.run rfl rfl rfl dC (h_alloc (cs := [(.bool false), (.slice none 0 0)]) ty42 rfl) ?_ RS.nil
     rintro _ w191 ⟨b192, rfl, hs195, hb194, he193⟩
     refine rm he193 ?_
     have hm196 := Ext.trans he176 (Ext.trans he181 he187)
     replace hb104 := hb104.ext hm196
     have lt_b102_b192 := Nat.lt_of_lt_of_eq hb104.lt hs195.symm
     have ge_b192 := hE.ge hs195
     refine RA.all [10] kR rfl ?_
     refine RS.runs rfl rfl rfl (h_stA (cs := [(bd ((((sg sX (val xnX)) * (sg false (val xdY))) + ((sg sY (val xnY)) * (sg false (val xdX)))) < 0)), vr188]) (o := 0) ty42 rfl rfl rfl rfl (one_cons rfl (one_cons hr189.one one_nil)) hb194 bL) ?_ RS.nil
     rintro w197 ⟨hn198, hx199, hz200⟩
     refine ⟨.inr (.inl kR), ?_⟩
     replace hE := (hE.nx he193).nb hx199 ge_b192
     have nb_hx199 := (Nb.of hb194 (nu_cons rfl (nu_cons rfl nu_nil)))
     replace hb194 : Bk w197 b192 42 [(bd ((((sg sX (val xnX)) * (sg false (val xdY))) + ((sg sY (val xnY)) * (sg false (val xdX)))) < 0)), vr188] := hn198
     refine RA.done kR ?_
     have hm201 := Ext.trans he111 (Ext.trans he172 (Ext.trans he176 (Ext.trans he181 (Ext.trans he187 he193))))
     replace hx := (((((hx.tr (Sm.ext (Ext.trans he88 he91))).apn hx96 nb_hx96).tr (Sm.ext (Ext.trans he100 he103))).apn hx108 nb_hx108).tr (Sm.ext hm201)).apn hx199 nb_hx199
     replace hy := (((hy.tr (Sm.ext (Ext.trans he100 he103))).apn hx108 nb_hx108).tr (Sm.ext hm201)).apn hx199 nb_hx199
     replace hdx := (((((hdx.tr (Sm.ext (Ext.trans he88 he91))).apn hx96 nb_hx96).tr (Sm.ext (Ext.trans he100 he103))).apn hx108 nb_hx108).tr (Sm.ext hm201)).apn hx199 nb_hx199
     replace hdy := (((hdy.tr (Sm.ext (Ext.trans he100 he103))).apn hx108 nb_hx108).tr (Sm.ext hm201)).apn hx199 nb_hx199
     replace hb4 := (((((hb4.ext (Ext.trans he88 he91)).exc hx96 (Nat.ne_of_lt (Nat.lt_trans lt_b2_b7 (Nat.lt_trans lt_b7_b12 lt_b12_b90)))).ext (Ext.trans he100 he103)).exc hx108 (Nat.ne_of_lt (Nat.lt_trans lt_b2_b7 (Nat.lt_trans lt_b7_b12 (Nat.lt_trans lt_b12_b90 lt_b90_b102))))).ext hm201).exc hx199 (Nat.ne_of_lt (Nat.lt_trans lt_b2_b7 (Nat.lt_trans lt_b7_b12 (Nat.lt_trans lt_b12_b90 (Nat.lt_trans lt_b90_b102 lt_b102_b192)))))
     replace hb9 := (((hb9.ext (Ext.trans he100 he103)).exc hx108 (Nat.ne_of_lt (Nat.lt_trans lt_b7_b12 (Nat.lt_trans lt_b12_b90 lt_b90_b102)))).ext hm201).exc hx199 (Nat.ne_of_lt (Nat.lt_trans lt_b7_b12 (Nat.lt_trans lt_b12_b90 (Nat.lt_trans lt_b90_b102 lt_b102_b192))))
     replace hb14 := (((((hb14.ext he91).exc hx96 (Nat.ne_of_lt lt_b12_b90)).ext (Ext.trans he100 he103)).exc hx108 (Nat.ne_of_lt (Nat.lt_trans lt_b12_b90 lt_b90_b102))).ext hm201).exc hx199 (Nat.ne_of_lt (Nat.lt_trans lt_b12_b90 (Nat.lt_trans lt_b90_b102 lt_b102_b192)))
     have hm202 := Ext.trans hm196 he193
     replace hnX := (hnX.tr (Sm.ext hm202)).apn hx199 nb_hx199
     have hm203 := Ext.trans he181 (Ext.trans he187 he193)
     replace hdX := (hdX.tr (Sm.ext hm203)).apn hx199 nb_hx199
     replace hb92 := (hb92.ext hm202).exc hx199 (Nat.ne_of_lt (Nat.lt_trans lt_b90_b102 lt_b102_b192))
     replace hnY := (hnY.tr (Sm.ext hm203)).apn hx199 nb_hx199
     replace hdY := (hdY.tr (Sm.ext hm202)).apn hx199 nb_hx199
     replace hb104 := (hb104.ext he193).exc hx199 (Nat.ne_of_lt lt_b102_b192)
     replace hr178 := (hr178.tr (Sm.ext (Ext.trans he187 he193))).apn hx199 nb_hx199
     replace hr183 := (hr183.tr (Sm.ext (Ext.trans he187 he193))).apn hx199 nb_hx199
     replace hr189 := (hr189.tr (Sm.ext he193)).apn hx199 nb_hx199
     refine ⟨b192, vr177, vr182, vr188, ?_, ?_, ?_, ?_, ?_, ?_, ?_, ?_, ?_, ?_, ?_, ?_, ?_, ?_, ?_, ?_, ?_, ?_, ?_, ?_, ?_, ?_⟩
     · exact (by repeat (first | exact G170 | refine Off.st ?_ dC _ | refine Off.via G70 dC ?_ | refine Off.eq hF63 ?_))
     · exact rfl
     · exact ge_b192
     · exact lt_b102_b192
     · exact hx
     · exact hy
     · exact hdx
     · exact hdy
     · exact hE
     · exact hb4
     · exact hb9
     · exact hb14
     · exact hnX
     · exact hdX
     · exact hb92
     · exact hnY
     · exact hdY
     · exact hb104
     · exact hr178
     · exact hr183
     · exact hr189
     exact hb194
    refine RS.run rfl rfl rfl dC (h_alloc (cs := [(.bool false), (.slice none 0 0)]) ty42 rfl) ?_ RS.nil
    rintro _ w204 ⟨b205, rfl, hs208, hb207, he206⟩
    refine rm he206 ?_
    replace hb104 := hb104.ext (Ext.trans he176 he181)
    have lt_b102_b205 := Nat.lt_of_lt_of_eq hb104.lt hs208.symm
    have ge_b205 := hE.ge hs208
    replace hE := hE.nx he206
    refine RA.all [8] kR rfl ?_
    replace hr178 := hr178.tr (Sm.ext he206)
    replace hr183 := hr183.tr (Sm.ext he206)
    refine RS.call rfl rfl rfl dC (r_call (vl := [(.agg #[(bd (((sg sX (val xnX)) * (sg false (val xdY))) < 0)), vr177]), (.agg #[(bd (((sg sY (val xnY)) * (sg false (val xdX))) < 0)), vr182])]) ent68 rfl) (i_add hr178 (digs_lm _) oS (sg_canon _) hr183 (digs_lm _) oS (sg_canon _)) ?_ RS.nil
    rintro _ w209 ⟨⟨vr211, rfl, hr212, hl213⟩, he210⟩
    refine rm he210 ?_
    replace hr212 := hr212.fr hE
    refine RA.all [10] kR rfl ?_
    replace hb207 := hb207.ext he210
    refine RS.runs rfl rfl rfl (h_stA (cs := [(bd ((((sg sX (val xnX)) * (sg false (val xdY))) + ((sg sY (val xnY)) * (sg false (val xdX)))) < 0)), vr211]) (o := 0) ty42 rfl rfl rfl rfl (one_cons rfl (one_cons hr212.one one_nil)) hb207 bL) ?_ RS.nil
    rintro w214 ⟨hn215, hx216, hz217⟩
    refine ⟨.inr (.inl kR), ?_⟩
    replace hE := (hE.nx he210).nb hx216 ge_b205
    have nb_hx216 := (Nb.of hb207 (nu_cons rfl (nu_cons rfl nu_nil)))
    replace hb207 : Bk w214 b205 42 [(bd ((((sg sX (val xnX)) * (sg false (val xdY))) + ((sg sY (val xnY)) * (sg false (val xdX)))) < 0)), vr211] := hn215
    refine RA.done kR ?_
    have hm218 := Ext.trans he111 (Ext.trans he172 (Ext.trans he176 (Ext.trans he181 (Ext.trans he206 he210))))
    replace hx := (((((hx.tr (Sm.ext (Ext.trans he88 he91))).apn hx96 nb_hx96).tr (Sm.ext (Ext.trans he100 he103))).apn hx108 nb_hx108).tr (Sm.ext hm218)).apn hx216 nb_hx216
    replace hy := (((hy.tr (Sm.ext (Ext.trans he100 he103))).apn hx108 nb_hx108).tr (Sm.ext hm218)).apn hx216 nb_hx216
    replace hdx := (((((hdx.tr (Sm.ext (Ext.trans he88 he91))).apn hx96 nb_hx96).tr (Sm.ext (Ext.trans he100 he103))).apn hx108 nb_hx108).tr (Sm.ext hm218)).apn hx216 nb_hx216
    replace hdy := (((hdy.tr (Sm.ext (Ext.trans he100 he103))).apn hx108 nb_hx108).tr (Sm.ext hm218)).apn hx216 nb_hx216
    replace hb4 := (((((hb4.ext (Ext.trans he88 he91)).exc hx96 (Nat.ne_of_lt (Nat.lt_trans lt_b2_b7 (Nat.lt_trans lt_b7_b12 lt_b12_b90)))).ext (Ext.trans he100 he103)).exc hx108 (Nat.ne_of_lt (Nat.lt_trans lt_b2_b7 (Nat.lt_trans lt_b7_b12 (Nat.lt_trans lt_b12_b90 lt_b90_b102))))).ext hm218).exc hx216 (Nat.ne_of_lt (Nat.lt_trans lt_b2_b7 (Nat.lt_trans lt_b7_b12 (Nat.lt_trans lt_b12_b90 (Nat.lt_trans lt_b90_b102 lt_b102_b205)))))
    replace hb9 := (((hb9.ext (Ext.trans he100 he103)).exc hx108 (Nat.ne_of_lt (Nat.lt_trans lt_b7_b12 (Nat.lt_trans lt_b12_b90 lt_b90_b102)))).ext hm218).exc hx216 (Nat.ne_of_lt (Nat.lt_trans lt_b7_b12 (Nat.lt_trans lt_b12_b90 (Nat.lt_trans lt_b90_b102 lt_b102_b205))))
    replace hb14 := (((((hb14.ext he91).exc hx96 (Nat.ne_of_lt lt_b12_b90)).ext (Ext.trans he100 he103)).exc hx108 (Nat.ne_of_lt (Nat.lt_trans lt_b12_b90 lt_b90_b102))).ext hm218).exc hx216 (Nat.ne_of_lt (Nat.lt_trans lt_b12_b90 (Nat.lt_trans lt_b90_b102 lt_b102_b205)))
    have hm219 := Ext.trans he176 (Ext.trans he181 (Ext.trans he206 he210))
    replace hnX := (hnX.tr (Sm.ext hm219)).apn hx216 nb_hx216
    have hm220 := Ext.trans he181 (Ext.trans he206 he210)
    replace hdX := (hdX.tr (Sm.ext hm220)).apn hx216 nb_hx216
    replace hb92 := (hb92.ext hm219).exc hx216 (Nat.ne_of_lt (Nat.lt_trans lt_b90_b102 lt_b102_b205))
    replace hnY := (hnY.tr (Sm.ext hm220)).apn hx216 nb_hx216
    replace hdY := (hdY.tr (Sm.ext hm219)).apn hx216 nb_hx216
    replace hb104 := (hb104.ext (Ext.trans he206 he210)).exc hx216 (Nat.ne_of_lt lt_b102_b205)
    replace hr178 := (hr178.tr (Sm.ext he210)).apn hx216 nb_hx216
    replace hr183 := (hr183.tr (Sm.ext he210)).apn hx216 nb_hx216
    replace hr212 := hr212.apn hx216 nb_hx216
    refine ⟨b205, vr177, vr182, vr211, ?_, ?_, ?_, ?_, ?_, ?_, ?_, ?_, ?_, ?_, ?_, ?_, ?_, ?_, ?_, ?_, ?_, ?_, ?_, ?_, ?_, ?_⟩
    · exact (by repeat (first | exact G170 | refine Off.st ?_ dC _ | refine Off.via G70 dC ?_ | refine Off.eq hF63 ?_))
    · exact rfl
    · exact ge_b205
    · exact lt_b102_b205
    · exact hx
    · exact hy
    · exact hdx
    · exact hdy
    · exact hE
    · exact hb4
    · exact hb9
    · exact hb14
    · exact hnX
    · exact hdX
    · exact hb92
    · exact hnY
    · exact hdY
    · exact hb104
    · exact hr178
    · exact hr183
    · exact hr212
    exact hb207
   refine RS.run rfl rfl rfl dC (h_alloc (cs := [(.bool false), (.slice none 0 0)]) ty42 rfl) ?_ RS.nil
   rintro _ w221 ⟨b222, rfl, hs225, hb224, he223⟩
   refine rm he223 ?_
   replace hb104 := hb104.ext he176
   have lt_b102_b222 := Nat.lt_of_lt_of_eq hb104.lt hs225.symm
   have ge_b222 := hE.ge hs225
   replace hE := hE.nx he223
   refine RA.all [7] kR rfl ?_
   replace hnY := hnY.tr (Sm.ext he223)
   replace hdX := hdX.tr (Sm.ext he223)
   refine RS.call rfl rfl rfl dC (r_call (vl := [(.agg #[(.bool sY), vnY]), (.agg #[(.bool false), vdX])]) ent69 rfl) (i_mul hnY lmnY oS rfl hdX lmdX oS rfl) ?_ RS.nil
   rintro _ w226 ⟨⟨vr228, rfl, hr229, hl230⟩, he227⟩
   refine rm he227 ?_
   replace hr229 := hr229.fr hE
   replace hE := hE.nx he227
   refine RA.all [8] kR rfl ?_
   replace hr178 := hr178.tr (Sm.ext (Ext.trans he223 he227))
   refine RS.call rfl rfl rfl dC (r_call (vl := [(.agg #[(bd (((sg sX (val xnX)) * (sg false (val xdY))) < 0)), vr177]), (.agg #[(bd (((sg sY (val xnY)) * (sg false (val xdX))) < 0)), vr228])]) ent68 rfl) (i_add hr178 (digs_lm _) oS (sg_canon _) hr229 (digs_lm _) oS (sg_canon _)) ?_ RS.nil
   rintro _ w231 ⟨⟨vr233, rfl, hr234, hl235⟩, he232⟩
   refine rm he232 ?_
   replace hr234 := hr234.fr hE
   refine RA.all [10] kR rfl ?_
   replace hb224 := hb224.ext (Ext.trans he227 he232)
   refine RS.runs rfl rfl rfl (h_stA (cs := [(bd ((((sg sX (val xnX)) * (sg false (val xdY))) + ((sg sY (val xnY)) * (sg false (val xdX)))) < 0)), vr233]) (o := 0) ty42 rfl rfl rfl rfl (one_cons rfl (one_cons hr234.one one_nil)) hb224 bL) ?_ RS.nil
   rintro w236 ⟨hn237, hx238, hz239⟩
   refine ⟨.inr (.inl kR), ?_⟩
   replace hE := (hE.nx he232).nb hx238 ge_b222
   have nb_hx238 := (Nb.of hb224 (nu_cons rfl (nu_cons rfl nu_nil)))
   replace hb224 : Bk w236 b222 42 [(bd ((((sg sX (val xnX)) * (sg false (val xdY))) + ((sg sY (val xnY)) * (sg false (val xdX)))) < 0)), vr233] := hn237
   refine RA.done kR ?_
   have hm240 := Ext.trans he111 (Ext.trans he172 (Ext.trans he176 (Ext.trans he223 (Ext.trans he227 he232))))
   replace hx := (((((hx.tr (Sm.ext (Ext.trans he88 he91))).apn hx96 nb_hx96).tr (Sm.ext (Ext.trans he100 he103))).apn hx108 nb_hx108).tr (Sm.ext hm240)).apn hx238 nb_hx238
   replace hy := (((hy.tr (Sm.ext (Ext.trans he100 he103))).apn hx108 nb_hx108).tr (Sm.ext hm240)).apn hx238 nb_hx238
   replace hdx := (((((hdx.tr (Sm.ext (Ext.trans he88 he91))).apn hx96 nb_hx96).tr (Sm.ext (Ext.trans he100 he103))).apn hx108 nb_hx108).tr (Sm.ext hm240)).apn hx238 nb_hx238
   replace hdy := (((hdy.tr (Sm.ext (Ext.trans he100 he103))).apn hx108 nb_hx108).tr (Sm.ext hm240)).apn hx238 nb_hx238
   replace hb4 := (((((hb4.ext (Ext.trans he88 he91)).exc hx96 (Nat.ne_of_lt (Nat.lt_trans lt_b2_b7 (Nat.lt_trans lt_b7_b12 lt_b12_b90)))).ext (Ext.trans he100 he103)).exc hx108 (Nat.ne_of_lt (Nat.lt_trans lt_b2_b7 (Nat.lt_trans lt_b7_b12 (Nat.lt_trans lt_b12_b90 lt_b90_b102))))).ext hm240).exc hx238 (Nat.ne_of_lt (Nat.lt_trans lt_b2_b7 (Nat.lt_trans lt_b7_b12 (Nat.lt_trans lt_b12_b90 (Nat.lt_trans lt_b90_b102 lt_b102_b222)))))
   replace hb9 := (((hb9.ext (Ext.trans he100 he103)).exc hx108 (Nat.ne_of_lt (Nat.lt_trans lt_b7_b12 (Nat.lt_trans lt_b12_b90 lt_b90_b102)))).ext hm240).exc hx238 (Nat.ne_of_lt (Nat.lt_trans lt_b7_b12 (Nat.lt_trans lt_b12_b90 (Nat.lt_trans lt_b90_b102 lt_b102_b222))))
   replace hb14 := (((((hb14.ext he91).exc hx96 (Nat.ne_of_lt lt_b12_b90)).ext (Ext.trans he100 he103)).exc hx108 (Nat.ne_of_lt (Nat.lt_trans lt_b12_b90 lt_b90_b102))).ext hm240).exc hx238 (Nat.ne_of_lt (Nat.lt_trans lt_b12_b90 (Nat.lt_trans lt_b90_b102 lt_b102_b222)))
   have hm241 := Ext.trans he176 (Ext.trans he223 (Ext.trans he227 he232))
   replace hnX := (hnX.tr (Sm.ext hm241)).apn hx238 nb_hx238
   replace hdX := (hdX.tr (Sm.ext (Ext.trans he227 he232))).apn hx238 nb_hx238
   replace hb92 := (hb92.ext hm241).exc hx238 (Nat.ne_of_lt (Nat.lt_trans lt_b90_b102 lt_b102_b222))
   replace hnY := (hnY.tr (Sm.ext (Ext.trans he227 he232))).apn hx238 nb_hx238
   replace hdY := (hdY.tr (Sm.ext hm241)).apn hx238 nb_hx238
   have hm242 := Ext.trans he223 (Ext.trans he227 he232)
   replace hb104 := (hb104.ext hm242).exc hx238 (Nat.ne_of_lt lt_b102_b222)
   replace hr178 := (hr178.tr (Sm.ext he232)).apn hx238 nb_hx238
   replace hr229 := (hr229.tr (Sm.ext he232)).apn hx238 nb_hx238
   replace hr234 := hr234.apn hx238 nb_hx238
   refine ⟨b222, vr177, vr228, vr233, ?_, ?_, ?_, ?_, ?_, ?_, ?_, ?_, ?_, ?_, ?_, ?_, ?_, ?_, ?_, ?_, ?_, ?_, ?_, ?_, ?_, ?_⟩
   · exact (by repeat (first | exact G170 | refine Off.st ?_ dC _ | refine Off.via G70 dC ?_ | refine Off.eq hF63 ?_))
   · exact rfl
   · exact ge_b222
   · exact lt_b102_b222
   · exact hx
   · exact hy
   · exact hdx
   · exact hdy
   · exact hE
   · exact hb4
   · exact hb9
   · exact hb14
   · exact hnX
   · exact hdX
   · exact hb92
   · exact hnY
   · exact hdY
   · exact hb104
   · exact hr178
   · exact hr229
   · exact hr234
   exact hb224
  refine RS.run rfl rfl rfl dC (h_alloc (cs := [(.bool false), (.slice none 0 0)]) ty42 rfl) ?_ RS.nil
  rintro _ w243 ⟨b244, rfl, hs247, hb246, he245⟩
  refine rm he245 ?_
  have lt_b102_b244 := Nat.lt_of_lt_of_eq hb104.lt hs247.symm
  have ge_b244 := hE.ge hs247
  replace hE := hE.nx he245
  refine RA.all [3] kR rfl ?_
  replace hnX := hnX.tr (Sm.ext he245)
  replace hdY := hdY.tr (Sm.ext he245)
  refine RS.call rfl rfl rfl dC (r_call (vl := [(.agg #[(.bool sX), vnX]), (.agg #[(.bool false), vdY])]) ent69 rfl) (i_mul hnX lmnX oS rfl hdY lmdY oS rfl) ?_ RS.nil
  rintro _ w248 ⟨⟨vr250, rfl, hr251, hl252⟩, he249⟩
  refine rm he249 ?_
  replace hr251 := hr251.fr hE
  replace hE := hE.nx he249
  refine RA.all [7] kR rfl ?_
  have hm258 := Ext.trans he111 (Ext.trans he172 (Ext.trans he245 he249))
  replace hnY := ((hnY.tr (Sm.ext he103)).apn hx108 nb_hx108).tr (Sm.ext hm258)
  replace hdX := hdX.tr (Sm.ext hm258)
  refine RS.call rfl rfl rfl dC (r_call (vl := [(.agg #[(.bool sY), vnY]), (.agg #[(.bool false), vdX])]) ent69 rfl) (i_mul hnY lmnY oS rfl hdX lmdX oS rfl) ?_ RS.nil
  rintro _ w253 ⟨⟨vr255, rfl, hr256, hl257⟩, he254⟩
  refine rm he254 ?_
  replace hr256 := hr256.fr hE
  replace hE := hE.nx he254
  refine RA.all [8] kR rfl ?_
  replace hr251 := hr251.tr (Sm.ext he254)
  refine RS.call rfl rfl rfl dC (r_call (vl := [(.agg #[(bd (((sg sX (val xnX)) * (sg false (val xdY))) < 0)), vr250]), (.agg #[(bd (((sg sY (val xnY)) * (sg false (val xdX))) < 0)), vr255])]) ent68 rfl) (i_add hr251 (digs_lm _) oS (sg_canon _) hr256 (digs_lm _) oS (sg_canon _)) ?_ RS.nil
  rintro _ w259 ⟨⟨vr261, rfl, hr262, hl263⟩, he260⟩
  refine rm he260 ?_
  replace hr262 := hr262.fr hE
  refine RA.all [10] kR rfl ?_
  have hm268 := Ext.trans he249 (Ext.trans he254 he260)
  replace hb246 := hb246.ext hm268
  refine RS.runs rfl rfl rfl (h_stA (cs := [(bd ((((sg sX (val xnX)) * (sg false (val xdY))) + ((sg sY (val xnY)) * (sg false (val xdX)))) < 0)), vr261]) (o := 0) ty42 rfl rfl rfl rfl (one_cons rfl (one_cons hr262.one one_nil)) hb246 bL) ?_ RS.nil
  rintro w264 ⟨hn265, hx266, hz267⟩
  refine ⟨.inr (.inl kR), ?_⟩
  replace hE := (hE.nx he260).nb hx266 ge_b244
  have nb_hx266 := (Nb.of hb246 (nu_cons rfl (nu_cons rfl nu_nil)))
  replace hb246 : Bk w264 b244 42 [(bd ((((sg sX (val xnX)) * (sg false (val xdY))) + ((sg sY (val xnY)) * (sg false (val xdX)))) < 0)), vr261] := hn265
  refine RA.done kR ?_
  have hm269 := Ext.trans he111 (Ext.trans he172 (Ext.trans he245 (Ext.trans he249 (Ext.trans he254 he260))))
  replace hx := (((((hx.tr (Sm.ext (Ext.trans he88 he91))).apn hx96 nb_hx96).tr (Sm.ext (Ext.trans he100 he103))).apn hx108 nb_hx108).tr (Sm.ext hm269)).apn hx266 nb_hx266
  replace hy := (((hy.tr (Sm.ext (Ext.trans he100 he103))).apn hx108 nb_hx108).tr (Sm.ext hm269)).apn hx266 nb_hx266
  replace hdx := (((((hdx.tr (Sm.ext (Ext.trans he88 he91))).apn hx96 nb_hx96).tr (Sm.ext (Ext.trans he100 he103))).apn hx108 nb_hx108).tr (Sm.ext hm269)).apn hx266 nb_hx266
  replace hdy := (((hdy.tr (Sm.ext (Ext.trans he100 he103))).apn hx108 nb_hx108).tr (Sm.ext hm269)).apn hx266 nb_hx266
  replace hb4 := (((((hb4.ext (Ext.trans he88 he91)).exc hx96 (Nat.ne_of_lt (Nat.lt_trans lt_b2_b7 (Nat.lt_trans lt_b7_b12 lt_b12_b90)))).ext (Ext.trans he100 he103)).exc hx108 (Nat.ne_of_lt (Nat.lt_trans lt_b2_b7 (Nat.lt_trans lt_b7_b12 (Nat.lt_trans lt_b12_b90 lt_b90_b102))))).ext hm269).exc hx266 (Nat.ne_of_lt (Nat.lt_trans lt_b2_b7 (Nat.lt_trans lt_b7_b12 (Nat.lt_trans lt_b12_b90 (Nat.lt_trans lt_b90_b102 lt_b102_b244)))))
  replace hb9 := (((hb9.ext (Ext.trans he100 he103)).exc hx108 (Nat.ne_of_lt (Nat.lt_trans lt_b7_b12 (Nat.lt_trans lt_b12_b90 lt_b90_b102)))).ext hm269).exc hx266 (Nat.ne_of_lt (Nat.lt_trans lt_b7_b12 (Nat.lt_trans lt_b12_b90 (Nat.lt_trans lt_b90_b102 lt_b102_b244))))
  replace hb14 := (((((hb14.ext he91).exc hx96 (Nat.ne_of_lt lt_b12_b90)).ext (Ext.trans he100 he103)).exc hx108 (Nat.ne_of_lt (Nat.lt_trans lt_b12_b90 lt_b90_b102))).ext hm269).exc hx266 (Nat.ne_of_lt (Nat.lt_trans lt_b12_b90 (Nat.lt_trans lt_b90_b102 lt_b102_b244)))
  replace hnX := (hnX.tr (Sm.ext hm268)).apn hx266 nb_hx266
  replace hdX := (hdX.tr (Sm.ext (Ext.trans he254 he260))).apn hx266 nb_hx266
  have hm270 := Ext.trans he245 (Ext.trans he249 (Ext.trans he254 he260))
  replace hb92 := (hb92.ext hm270).exc hx266 (Nat.ne_of_lt (Nat.lt_trans lt_b90_b102 lt_b102_b244))
  replace hnY := (hnY.tr (Sm.ext (Ext.trans he254 he260))).apn hx266 nb_hx266
  replace hdY := (hdY.tr (Sm.ext hm268)).apn hx266 nb_hx266
  replace hb104 := (hb104.ext hm270).exc hx266 (Nat.ne_of_lt lt_b102_b244)
  replace hr251 := (hr251.tr (Sm.ext he260)).apn hx266 nb_hx266
  replace hr256 := (hr256.tr (Sm.ext he260)).apn hx266 nb_hx266
  replace hr262 := hr262.apn hx266 nb_hx266
  refine ⟨b244, vr250, vr255, vr261, ?_, ?_, ?_, ?_, ?_, ?_, ?_, ?_, ?_, ?_, ?_, ?_, ?_, ?_, ?_, ?_, ?_, ?_, ?_, ?_, ?_, ?_⟩
  · exact (by repeat (first | exact G170 | refine Off.st ?_ dC _ | refine Off.via G70 dC ?_ | refine Off.eq hF63 ?_))
  · exact rfl
  · exact ge_b244
  · exact lt_b102_b244
  · exact hx
  · exact hy
  · exact hdx
  · exact hdy
  · exact hE
  · exact hb4
  · exact hb9
  · exact hb14
  · exact hnX
  · exact hdX
  · exact hb92
  · exact hnY
  · exact hdY
  · exact hb104
  · exact hr251
  · exact hr256
  · exact hr262
  exact hb246
 clear hx hy hdx hdy hE hb4 hb9 hb14 hnX hdX hb92 hnY hdY hb104
 rintro f271 w272 ⟨b161, vr146, vr151, vr157, G273, hs274, ge_b161, lt_b102_b161, hx, hy, hdx, hdy, hE, hb4, hb9, hb14, hnX, hdX, hb92, hnY, hdY, hb104, hr147, hr152, hr158, hb163⟩
 refine wseq ?_
 have hi1 := il_add (sg sX (val xnX) * sg false (val xdY)) (sg sY (val xnY) * sg false (val xdX))
 have hi2 := il_mul (sg sX (val xnX)) (sg false (val xdY))
 have hi3 := il_mul (sg sY (val xnY)) (sg false (val xdX))
 have hi4 := il_le (b := sX) lmnX rfl
 have hi5 := il_le (b := sY) lmnY rfl
 have hi6 := il_le (b := false) lmdX rfl
 have hi7 := il_le (b := false) lmdY rfl
 have hnz : val (digs (val xdX * val xdY)) ≠ 0 := by rw [val_digs]; exact Nat.mul_ne_zero nzX nzY
 refine wdraw mixed fun w275 he276 => ?_
 replace hE := hE.nx he276
 replace hb163 := hb163.ext he276
 have hc277 := hb163.cells (o := 0) (cs := [(bd ((((sg sX (val xnX)) * (sg false (val xdY))) + ((sg sY (val xnY)) * (sg false (val xdX)))) < 0)), vr157]) rfl
 refine aR 0 rfl (fun u hu => r_loada (o := 0) (cs := [(bd ((((sg sX (val xnX)) * (sg false (val xdY))) + ((sg sY (val xnY)) * (sg false (val xdX)))) < 0)), vr157]) uT42 ag42 ty42 hs274 (fun j v hj => cell_ext hu (hc277 j v hj))) ?_
 refine aM 1 rfl (v := vdX) ((G273 12 rfl).trans (hF139 12)) ?_
 refine aM 2 rfl (v := vdY) ((G273 14 rfl).trans (hF139 14)) ?_
 refine RA.all [3] kR rfl ?_
 replace hdX := hdX.tr (Sm.ext he276)
 replace hdY := hdY.tr (Sm.ext he276)
 refine cS ent70 (n_mul hdX lmdX oS hdY lmdY oS) rfl rfl ?_ RS.nil
 rintro vr280 w278 ⟨hr281, he279⟩
 refine rm he279 ?_
 replace hr281 := hr281.fr hE
 replace hE := hE.nx he279
 have hlv282 := dl_val (x := xdX) lmdX
 have hlv283 := dl_val (x := xdY) lmdY
 have hlv284 := dl_mul (val xdX) (val xdY)
 refine RA.all [4] kR rfl ?_
 replace hr158 := hr158.tr (Sm.ext (Ext.trans he276 he279))
 refine RS.call rfl rfl rfl dC (r_call (vl := [(.agg #[(bd ((((sg sX (val xnX)) * (sg false (val xdY))) + ((sg sY (val xnY)) * (sg false (val xdX)))) < 0)), vr157]), vr280]) ent61 rfl) (q_lowest hr158 (digs_lm _) oS (sg_canon _) hr281 (digs_lm _) oS (by first | assumption | exact hnz)) ?_ RS.nil
 rintro vv293 w285 ⟨⟨vn287, vd289, hv294, hn288, hd290, hl291, hl292⟩, he286⟩
 refine rm he286 ?_
 simp only [val_digs] at hv294
 subst hv294
 simp only [val_digs] at hn288 hd290 hl291 hl292
 have hlv295 := den_one (Rat.divInt (((sg sX (val xnX)) * (sg false (val xdY))) + ((sg sY (val xnY)) * (sg false (val xdX)))) ((((val xdX) * (val xdY)) : Nat) : Int))
 replace hn288 := hn288.fr hE
 replace hd290 := hd290.fr hE
 refine RA.all [5] kR rfl ?_
 have hm300 := Ext.trans he276 (Ext.trans he279 he286)
 replace hb14 := hb14.ext hm300
 refine RS.runs rfl rfl rfl (h_stA (cs := [(bd ((Rat.divInt (((sg sX (val xnX)) * (sg false (val xdY))) + ((sg sY (val xnY)) * (sg false (val xdX)))) ((((val xdX) * (val xdY)) : Nat) : Int)).num < 0)), vn287, vd289]) (o := 0) ty44 ((G273 4 rfl).trans ((hF139 4).trans ((G70 4 rfl).trans (hF63 4)))) rfl rfl rfl (one_cons rfl (one_cons hn288.one (one_cons hd290.one one_nil))) hb14 bL) ?_ RS.nil
 rintro w296 ⟨hn297, hx298, hz299⟩
 refine ⟨.inr (.inl kR), ?_⟩
 replace hE := (hE.nx he286).nb hx298 ge_b12
 have nb_hx298 := (Nb.of hb14 (nu_cons rfl (nu_cons rfl (nu_cons rfl nu_nil))))
 replace hb14 : Bk w296 b12 44 [(bd ((Rat.divInt (((sg sX (val xnX)) * (sg false (val xdY))) + ((sg sY (val xnY)) * (sg false (val xdX)))) ((((val xdX) * (val xdY)) : Nat) : Int)).num < 0)), vn287, vd289] := hn297
 refine RA.done kR ?_
 refine wret ?_
 refine ⟨[(.agg #[(bd ((Rat.divInt (((sg sX (val xnX)) * (sg false (val xdY))) + ((sg sY (val xnY)) * (sg false (val xdX)))) ((((val xdX) * (val xdY)) : Nat) : Int)).num < 0)), vn287, vd289])], ⟨⟨_, _, [(bd ((Rat.divInt (((sg sX (val xnX)) * (sg false (val xdY))) + ((sg sY (val xnY)) * (sg false (val xdX)))) ((((val xdX) * (val xdY)) : Nat) : Int)).num < 0)), vn287, vd289], ((G273 4 rfl).trans ((hF139 4).trans ((G70 4 rfl).trans (hF63 4)))), ⟨_, uT44⟩, hb14.cells rfl, .inl ⟨ag44, ⟨_, _, ty44⟩, rfl⟩⟩, trivial⟩, ?_⟩
 have hlr := radd_len qx qy
 have hq : (Rat.divInt (((sg sX (val xnX)) * (sg false (val xdY))) + ((sg sY (val xnY)) * (sg false (val xdX)))) ((((val xdX) * (val xdY)) : Nat) : Int)) = (qx + qy) := by first | (rw [hx0, Rat.zero_add]; done) | (rw [hy0, Rat.add_zero]; done) | exact radd_small hsx1.2.2.1 hsy1.2.2.1 hsx1.2.2.2.2 hsy1.2.2.2.2 | exact radd_same oM eqX (by rw [hxd]; exact eqY) | (rw [Int.natCast_mul]; exact radd_small (by rw [sg_f]; omega) (by rw [sg_f]; omega) eqX eqY)
 replace hn288 := hn288.apn hx298 nb_hx298
 replace hd290 := hd290.apn hx298 nb_hx298
 exact ⟨⟨_, _, agg3 (congrArg (fun z : Rat => decide (z.num < 0)) hq), by rw [← hq]; exact hn288, by rw [← hq]; exact hd290, by omega, by omega⟩, hE⟩
set_option maxHeartbeats 4000000 in
theorem q_mul {w : World} {sx : Bool} {Dx Ex : Nat → TypeId → Prop} {vx ux : Value} {x dx : List Nat} (hx : Sg (gN .u32) Dx w vx x) (lmx : Lm x) (lnx : x.length ≤ 17179869184) (hdx : Sg (gN .u32) Ex w ux dx) (lmdx : Lm dx) (lndx : dx.length ≤ 17179869184) {qx : Rat} (ex : ratOf sx (val x) (val dx) = qx) {sy : Bool} {Dy Ey : Nat → TypeId → Prop} {vy uy : Value} {y dy : List Nat} (hy : Sg (gN .u32) Dy w vy y) (lmy : Lm y) (lny : y.length ≤ 17179869184) (hdy : Sg (gN .u32) Ey w uy dy) (lmdy : Lm dy) (lndy : dy.length ≤ 17179869184) {qy : Rat} (ey : ratOf sy (val y) (val dy) = qy) :
    Calls Tryz.prog 47 #[(.agg #[(.bool sx), vx, ux]), (.agg #[(.bool sy), vy, uy])] w fun e w' => ∃ v, e = .returned v ∧ (∃ vn vd, v = .agg #[.bool (decide ((qx * qy).num < 0)), vn, vd] ∧ Sg (gN .u32) (fun b T => w.heap.size ≤ b ∧ T = 89) w' vn (digs (qx * qy).num.natAbs) ∧ Sg (gN .u32) (fun b T => w.heap.size ≤ b ∧ T = 89) w' vd (digs (qx * qy).den) ∧ (digs (qx * qy).num.natAbs).length ≤ x.length + y.length ∧ (digs (qx * qy).den).length ≤ dx.length + dy.length + 2) ∧ Ext w w' := by
 have hE : Below w.heap.size w w := Below.refl _ _
 have hlqx := rl_of lmx lmdx ex
 have hdqx := den_one qx
 have hlqy := rl_of lmy lmdy ey
 have hdqy := den_one qy
 refine calls_of (n := 55) (rs := [.cell 4 44]) func47 rfl rfl rfl bL ?_
 refine wset fun F0 hF0 => ?_
 refine wsr ?_
 refine rU (h_bxA (cs := [(.bool sx), vx, ux]) (hF0 0) rfl) ?_
 rintro _ w1 ⟨b2, rfl, hs5, hb4, he3⟩
 have ge_b2 := hE.ge hs5
 replace hE := hE.nx he3
 refine rU (h_bxA (cs := [(.bool sy), vy, uy]) (hF0 1) rfl) ?_
 rintro _ w6 ⟨b7, rfl, hs10, hb9, he8⟩
 have lt_b2_b7 := Nat.lt_of_lt_of_eq hb4.lt hs10.symm
 have ge_b7 := hE.ge hs10
 replace hE := hE.nx he8
 refine rU (h_alloc (cs := [(.bool false), (.slice none 0 0), (.slice none 0 0)]) ty44 rfl) ?_
 rintro _ w11 ⟨b12, rfl, hs15, hb14, he13⟩
 have lt_b7_b12 := Nat.lt_of_lt_of_eq hb9.lt hs15.symm
 have ge_b12 := hE.ge hs15
 refine RL.nil (wsr ?_)
 replace hb4 := hb4.ext (Ext.trans he8 he13)
 have hc16 := hb4.cells (o := 0) (cs := [(.bool sx), vx, ux]) rfl
 refine rV (r_loada (o := 0) (cs := [(.bool sx), vx, ux]) uT44 ag44 ty44 rfl hc16) ?_
 have hm19 := Ext.trans he3 (Ext.trans he8 he13)
 replace hx := hx.tr (Sm.ext hm19)
 replace hdx := hdx.tr (Sm.ext hm19)
 refine RL.call rfl rfl dC (r_call (vl := [(.agg #[(.bool sx), vx, ux])]) ent59 rfl) (q_small hx (by assumption) oS hdx (by assumption) oS (show ratOf sx (val x) (val dx) = qx from ex)) ?_
 rintro _ w17 ⟨⟨nX, dX, okX, rfl, hsX⟩, he18⟩
 refine mV (v := (.tuple #[(iv nX), (iv dX), (.bool okX)])) rfl (rV (r_extract (v := (iv nX)) rfl rfl) (rV (r_extract (v := (iv dX)) rfl rfl) (rV (r_extract (v := (.bool okX)) rfl rfl) (aS (v := (iv nX)) rfl (aS (v := (iv dX)) rfl (aS (v := (.bool okX)) rfl (RL.nil (wsr ?_))))))))
 replace hb9 := hb9.ext (Ext.trans he13 he18)
 have hc20 := hb9.cells (o := 0) (cs := [(.bool sy), vy, uy]) rfl
 refine rV (r_loada (o := 0) (cs := [(.bool sy), vy, uy]) uT44 ag44 ty44 rfl hc20) ?_
 have hm23 := Ext.trans hm19 he18
 replace hy := hy.tr (Sm.ext hm23)
 replace hdy := hdy.tr (Sm.ext hm23)
 refine RL.call rfl rfl dC (r_call (vl := [(.agg #[(.bool sy), vy, uy])]) ent59 rfl) (q_small hy (by assumption) oS hdy (by assumption) oS (show ratOf sy (val y) (val dy) = qy from ey)) ?_
 rintro _ w21 ⟨⟨nY, dY, okY, rfl, hsY⟩, he22⟩
 replace hE := ((hE.nx he13).nx he18).nx he22
 refine mV (v := (.tuple #[(iv nY), (iv dY), (.bool okY)])) rfl (rV (r_extract (v := (iv nY)) rfl rfl) (rV (r_extract (v := (iv dY)) rfl rfl) (rV (r_extract (v := (.bool okY)) rfl rfl) (aS (v := (iv nY)) rfl (aS (v := (iv dY)) rfl (aS (v := (.bool okY)) rfl (RL.nil (wseq ?_))))))))
 refine wset fun F24 hF25 => ?_
 refine wcut (fun fl wl => ∃ t : Bool, Off [27, 28, 29, 30] F24 fl ∧ fl 30 = (.bool t) ∧ (t = true → okX = true ∧ okY = true) ∧ (Sg (gN .u32) Dx wl vx x) ∧ (Sg (gN .u32) Dy wl vy y) ∧ (Sg (gN .u32) Ex wl ux dx) ∧ (Sg (gN .u32) Ey wl uy dy) ∧ (Below w.heap.size w wl) ∧ (Bk wl b2 44 [(.bool sx), vx, ux]) ∧ (Bk wl b7 44 [(.bool sy), vy, uy]) ∧ (Bk wl b12 44 [(.bool false), (.slice none 0 0), (.slice none 0 0)])) ?_ ?_
 ·have G26 := Off.refl [27, 28, 29, 30] F24
  refine wregion (mV (v := (.bool okX)) (hF25 7) (mV (v := (.bool okX)) rfl ?_))
  rcases Bool.eq_false_or_eq_true (okX) with hb27 | hb27
  ·have hb27p := hb27
   have hokX := hb27
   refine RL.gval rfl rfl (bool_eq hb27) rfl dC (r_move_as (v := (.bool okY)) (hF25 10)) ?_
   refine rV (r_pick_t (v := (.bool okY)) (bool_eq hb27) rfl) (RL.nil ?_)
   replace hx := hx.tr (Sm.ext (Ext.trans he18 he22))
   replace hy := hy.tr (Sm.ext he22)
   replace hdx := hdx.tr (Sm.ext (Ext.trans he18 he22))
   replace hdy := hdy.tr (Sm.ext he22)
   replace hb4 := hb4.ext (Ext.trans he18 he22)
   replace hb9 := hb9.ext he22
   replace hb14 := hb14.ext (Ext.trans he18 he22)
   refine ⟨okY, ?_, ?_, ?_, ?_, ?_, ?_, ?_, ?_, ?_, ?_, ?_⟩
   · exact (by repeat (first | exact G26 | refine Off.st ?_ dC _))
   · rfl
   · exact fun h => ⟨hokX, h⟩
   · exact hx
   · exact hy
   · exact hdx
   · exact hdy
   · exact hE
   · exact hb4
   · exact hb9
   exact hb14
  have hb27p := hb27
  refine RL.gno rfl rfl (bool_eq hb27) rfl dC ?_
  refine rV (r_pick_f (v := (.bool false)) (bool_eq hb27) rfl) (RL.nil ?_)
  replace hx := hx.tr (Sm.ext (Ext.trans he18 he22))
  replace hy := hy.tr (Sm.ext he22)
  replace hdx := hdx.tr (Sm.ext (Ext.trans he18 he22))
  replace hdy := hdy.tr (Sm.ext he22)
  replace hb4 := hb4.ext (Ext.trans he18 he22)
  replace hb9 := hb9.ext he22
  replace hb14 := hb14.ext (Ext.trans he18 he22)
  refine ⟨false, ?_, ?_, ?_, ?_, ?_, ?_, ?_, ?_, ?_, ?_, ?_⟩
  · exact (by repeat (first | exact G26 | refine Off.st ?_ dC _))
  · rfl
  · exact fun h => by cases h
  · exact hx
  · exact hy
  · exact hdx
  · exact hdy
  · exact hE
  · exact hb4
  · exact hb9
  exact hb14
 clear hx hy hdx hdy hE hb4 hb9 hb14
 rintro f28 w29 ⟨t, G30, hs31, ht, hx, hy, hdx, hdy, hE, hb4, hb9, hb14⟩
 refine wcond (b := t) hs31 (fun hb32 => ?_) (fun hb32 => ?_)
 ·have hb32p := hb32
  have hsx1 := hsX (ht hb32).1
  have hsy1 := hsY (ht hb32).2
  refine wseq ?_
  have hm1 := mul31 (a := nX) (b := dY) ⟨by omega, by omega⟩ ⟨by omega, by omega⟩
  have hm2 := mul31 (a := nY) (b := dX) ⟨by omega, by omega⟩ ⟨by omega, by omega⟩
  have hm3 := mul31 (a := dX) (b := dY) ⟨by omega, by omega⟩ ⟨by omega, by omega⟩
  have hm4 := mul31 (a := nX) (b := nY) ⟨by omega, by omega⟩ ⟨by omega, by omega⟩
  have hmp := Int.mul_pos hsx1.2.2.1 hsy1.2.2.1
  refine wregion (mV (v := (iv nX)) ((G30 5 rfl).trans (hF25 5)) (mV (v := (iv nY)) ((G30 8 rfl).trans (hF25 8)) (rV (r_mul (k := .i64) (a := nX) (b := nY) (c := nX * nY) rfl rfl (wi64 oM)) (mV (v := (iv dX)) ((G30 6 rfl).trans (hF25 6)) (mV (v := (iv dY)) ((G30 9 rfl).trans (hF25 9)) (rV (r_mul (k := .i64) (a := dX) (b := dY) (c := dX * dY) rfl rfl (wi64 oM)) ?_))))))
  refine cL ent60 (q_quot oM oM) rfl ?_
  rintro _ w33 ⟨⟨vn35, vd37, rfl, hn36, hd38, hl39, hl40⟩, he34⟩
  have hlv41 := den_one (Rat.divInt (nX * nY) (dX * dY))
  replace hn36 := hn36.fr hE
  replace hd38 := hd38.fr hE
  replace hb14 := hb14.ext he34
  refine RL.runs rfl rfl (h_stA (cs := [(bd ((Rat.divInt (nX * nY) (dX * dY)).num < 0)), vn35, vd37]) (o := 0) ty44 ((G30 4 rfl).trans (hF25 4)) rfl rfl rfl (one_cons rfl (one_cons hn36.one (one_cons hd38.one one_nil))) hb14 bL) ?_
  rintro w42 ⟨hn43, hx44, hz45⟩
  replace hE := (hE.nx he34).nb hx44 ge_b12
  have nb_hx44 := (Nb.of hb14 (nu_cons rfl (nu_cons rfl (nu_cons rfl nu_nil))))
  replace hb14 : Bk w42 b12 44 [(bd ((Rat.divInt (nX * nY) (dX * dY)).num < 0)), vn35, vd37] := hn43
  refine RL.nil ?_
  refine wret ?_
  refine ⟨[(.agg #[(bd ((Rat.divInt (nX * nY) (dX * dY)).num < 0)), vn35, vd37])], ⟨⟨_, _, [(bd ((Rat.divInt (nX * nY) (dX * dY)).num < 0)), vn35, vd37], ((G30 4 rfl).trans (hF25 4)), ⟨_, uT44⟩, hb14.cells rfl, .inl ⟨ag44, ⟨_, _, ty44⟩, rfl⟩⟩, trivial⟩, ?_⟩
  have hlr := rmul_len qx qy
  have hq : (Rat.divInt (nX * nY) (dX * dY)) = (qx * qy) := by first | exact rmul_small hsx1.2.2.2.2 hsy1.2.2.2.2 | (rw [Int.natCast_mul]; exact rmul_small eqX eqY)
  replace hn36 := hn36.apn hx44 nb_hx44
  replace hd38 := hd38.apn hx44 nb_hx44
  exact ⟨⟨_, _, agg3 (congrArg (fun z : Rat => decide (z.num < 0)) hq), by rw [← hq]; exact hn36, by rw [← hq]; exact hd38, by omega, by omega⟩, hE⟩
 have hb32p := hb32
 refine wskip ?_
 refine wsr ?_
 have hc46 := hb4.cells (o := 0) (cs := [(.bool sx), vx, ux]) rfl
 refine rV (r_loada (o := 0) (cs := [(.bool sx), vx, ux]) uT44 ag44 ty44 ((G30 2 rfl).trans (hF25 2)) hc46) ?_
 refine RL.call rfl rfl dC (r_call (vl := [(.agg #[(.bool sx), vx, ux])]) ent57 rfl) (q_parts hx (by assumption) oS hdx (by assumption) oS (show ratOf sx (val x) (val dx) = qx from ex)) ?_
 rintro _ w47 ⟨⟨sX, vnX, vdX, xnX, xdX, rfl, hnX, lmnX, lnnX, hdX, lmdX, lndX, nzX, eqX⟩, he48⟩
 replace hE := hE.nx he48
 refine mV (v := (.tuple #[(.agg #[(.bool sX), vnX]), vdX])) rfl (rV (r_extract (v := (.agg #[(.bool sX), vnX])) rfl rfl) (rV (r_extract (v := vdX) rfl rfl) ?_))
 refine rU (h_alloc (cs := [(.bool false), (.slice none 0 0)]) ty42 rfl) ?_
 rintro _ w49 ⟨b50, rfl, hs53, hb52, he51⟩
 replace hb14 := hb14.ext he48
 have lt_b12_b50 := Nat.lt_of_lt_of_eq hb14.lt hs53.symm
 have ge_b50 := hE.ge hs53
 refine RL.runs rfl rfl (h_stA (cs := [(.bool sX), vnX]) (o := 0) ty42 rfl rfl rfl rfl (one_cons rfl (one_cons hnX.one one_nil)) hb52 bL) ?_
 rintro w54 ⟨hn55, hx56, hz57⟩
 have nb_hx56 := (Nb.of hb52 (nu_cons rfl (nu_cons rfl nu_nil)))
 replace hb52 : Bk w54 b50 42 [(.bool sX), vnX] := hn55
 refine aS (v := vdX) rfl (RL.nil (wsr ?_))
 replace hb9 := (hb9.ext (Ext.trans he48 he51)).exc hx56 (Nat.ne_of_lt (Nat.lt_trans lt_b7_b12 lt_b12_b50))
 have hc58 := hb9.cells (o := 0) (cs := [(.bool sy), vy, uy]) rfl
 refine rV (r_loada (o := 0) (cs := [(.bool sy), vy, uy]) uT44 ag44 ty44 ((G30 3 rfl).trans (hF25 3)) hc58) ?_
 replace hy := (hy.tr (Sm.ext (Ext.trans he48 he51))).apn hx56 nb_hx56
 replace hdy := (hdy.tr (Sm.ext (Ext.trans he48 he51))).apn hx56 nb_hx56
 refine RL.call rfl rfl dC (r_call (vl := [(.agg #[(.bool sy), vy, uy])]) ent57 rfl) (q_parts hy (by assumption) oS hdy (by assumption) oS (show ratOf sy (val y) (val dy) = qy from ey)) ?_
 rintro _ w59 ⟨⟨sY, vnY, vdY, xnY, xdY, rfl, hnY, lmnY, lnnY, hdY, lmdY, lndY, nzY, eqY⟩, he60⟩
 replace hE := ((hE.nx he51).nb hx56 ge_b50).nx he60
 refine mV (v := (.tuple #[(.agg #[(.bool sY), vnY]), vdY])) rfl (rV (r_extract (v := (.agg #[(.bool sY), vnY])) rfl rfl) (rV (r_extract (v := vdY) rfl rfl) ?_))
 refine rU (h_alloc (cs := [(.bool false), (.slice none 0 0)]) ty42 rfl) ?_
 rintro _ w61 ⟨b62, rfl, hs65, hb64, he63⟩
 replace hb52 := hb52.ext he60
 have lt_b50_b62 := Nat.lt_of_lt_of_eq hb52.lt hs65.symm
 have ge_b62 := hE.ge hs65
 refine RL.runs rfl rfl (h_stA (cs := [(.bool sY), vnY]) (o := 0) ty42 rfl rfl rfl rfl (one_cons rfl (one_cons hnY.one one_nil)) hb64 bL) ?_
 rintro w66 ⟨hn67, hx68, hz69⟩
 replace hE := (hE.nx he63).nb hx68 ge_b62
 have nb_hx68 := (Nb.of hb64 (nu_cons rfl (nu_cons rfl nu_nil)))
 replace hb64 : Bk w66 b62 42 [(.bool sY), vnY] := hn67
 refine aS (v := vdY) rfl (RL.nil (wsr ?_))
 replace hb52 := (hb52.ext he63).exc hx68 (Nat.ne_of_lt lt_b50_b62)
 have hc70 := hb52.cells (o := 0) (cs := [(.bool sX), vnX]) rfl
 refine rV (r_loada (o := 0) (cs := [(.bool sX), vnX]) uT42 ag42 ty42 rfl hc70) ?_
 have hc71 := hb64.cells (o := 0) (cs := [(.bool sY), vnY]) rfl
 refine rV (r_loada (o := 0) (cs := [(.bool sY), vnY]) uT42 ag42 ty42 rfl hc71) ?_
 replace hnX := (((hnX.tr (Sm.ext he51)).apn hx56 nb_hx56).tr (Sm.ext (Ext.trans he60 he63))).apn hx68 nb_hx68
 replace hnY := (hnY.tr (Sm.ext he63)).apn hx68 nb_hx68
 refine RL.call rfl rfl dC (r_call (vl := [(.agg #[(.bool sX), vnX]), (.agg #[(.bool sY), vnY])]) ent69 rfl) (i_mul hnX lmnX oS rfl hnY lmnY oS rfl) ?_
 rintro _ w72 ⟨⟨vr74, rfl, hr75, hl76⟩, he73⟩
 replace hr75 := hr75.fr hE
 replace hE := hE.nx he73
 refine mV (v := vdX) rfl (mV (v := vdY) rfl ?_)
 replace hdX := ((((hdX.tr (Sm.ext he51)).apn hx56 nb_hx56).tr (Sm.ext (Ext.trans he60 he63))).apn hx68 nb_hx68).tr (Sm.ext he73)
 replace hdY := ((hdY.tr (Sm.ext he63)).apn hx68 nb_hx68).tr (Sm.ext he73)
 refine cL ent70 (n_mul hdX lmdX oS hdY lmdY oS) rfl ?_
 rintro vr79 w77 ⟨hr80, he78⟩
 replace hr80 := hr80.fr hE
 replace hE := hE.nx he78
 have hlv81 := dl_val (x := xdX) lmdX
 have hlv82 := dl_val (x := xdY) lmdY
 have hlv83 := dl_mul (val xdX) (val xdY)
 have hnz : val (digs (val xdX * val xdY)) ≠ 0 := by rw [val_digs]; exact Nat.mul_ne_zero nzX nzY
 replace hr75 := hr75.tr (Sm.ext he78)
 refine RL.call rfl rfl dC (r_call (vl := [(.agg #[(bd (((sg sX (val xnX)) * (sg sY (val xnY))) < 0)), vr74]), vr79]) ent61 rfl) (q_lowest hr75 (digs_lm _) oS (sg_canon _) hr80 (digs_lm _) oS (by first | assumption | exact hnz)) ?_
 rintro vv92 w84 ⟨⟨vn86, vd88, hv93, hn87, hd89, hl90, hl91⟩, he85⟩
 simp only [val_digs] at hv93
 subst hv93
 simp only [val_digs] at hn87 hd89 hl90 hl91
 have hlv94 := den_one (Rat.divInt ((sg sX (val xnX)) * (sg sY (val xnY))) ((((val xdX) * (val xdY)) : Nat) : Int))
 replace hn87 := hn87.fr hE
 replace hd89 := hd89.fr hE
 have hm99 := Ext.trans he73 (Ext.trans he78 he85)
 replace hb14 := ((((hb14.ext he51).exc hx56 (Nat.ne_of_lt lt_b12_b50)).ext (Ext.trans he60 he63)).exc hx68 (Nat.ne_of_lt (Nat.lt_trans lt_b12_b50 lt_b50_b62))).ext hm99
 refine RL.runs rfl rfl (h_stA (cs := [(bd ((Rat.divInt ((sg sX (val xnX)) * (sg sY (val xnY))) ((((val xdX) * (val xdY)) : Nat) : Int)).num < 0)), vn86, vd88]) (o := 0) ty44 ((G30 4 rfl).trans (hF25 4)) rfl rfl rfl (one_cons rfl (one_cons hn87.one (one_cons hd89.one one_nil))) hb14 bL) ?_
 rintro w95 ⟨hn96, hx97, hz98⟩
 replace hE := (hE.nx he85).nb hx97 ge_b12
 have nb_hx97 := (Nb.of hb14 (nu_cons rfl (nu_cons rfl (nu_cons rfl nu_nil))))
 replace hb14 : Bk w95 b12 44 [(bd ((Rat.divInt ((sg sX (val xnX)) * (sg sY (val xnY))) ((((val xdX) * (val xdY)) : Nat) : Int)).num < 0)), vn86, vd88] := hn96
 refine RL.nil ?_
 refine wret ?_
 refine ⟨[(.agg #[(bd ((Rat.divInt ((sg sX (val xnX)) * (sg sY (val xnY))) ((((val xdX) * (val xdY)) : Nat) : Int)).num < 0)), vn86, vd88])], ⟨⟨_, _, [(bd ((Rat.divInt ((sg sX (val xnX)) * (sg sY (val xnY))) ((((val xdX) * (val xdY)) : Nat) : Int)).num < 0)), vn86, vd88], ((G30 4 rfl).trans (hF25 4)), ⟨_, uT44⟩, hb14.cells rfl, .inl ⟨ag44, ⟨_, _, ty44⟩, rfl⟩⟩, trivial⟩, ?_⟩
 have hlr := rmul_len qx qy
 have hq : (Rat.divInt ((sg sX (val xnX)) * (sg sY (val xnY))) ((((val xdX) * (val xdY)) : Nat) : Int)) = (qx * qy) := by first | exact rmul_small hsx1.2.2.2.2 hsy1.2.2.2.2 | (rw [Int.natCast_mul]; exact rmul_small eqX eqY)
 replace hn87 := hn87.apn hx97 nb_hx97
 replace hd89 := hd89.apn hx97 nb_hx97
 exact ⟨⟨_, _, agg3 (congrArg (fun z : Rat => decide (z.num < 0)) hq), by rw [← hq]; exact hn87, by rw [← hq]; exact hd89, by omega, by omega⟩, hE⟩
end Go.Proofs.YtelbjmhhbeijkaaGreat
namespace Go.Vg
open Go Go.RowKit Go.Vm
abbrev SV : Type := Option Addr × Nat × Nat
abbrev sv (s : SV) : Value := .slice s.1 s.2.1 s.2.2
abbrev EC : Type := Int × Bool × SV × SV
abbrev entC : EC → List Value := fun x => [.int .i64 x.1, .bool x.2.1, sv x.2.2.1, sv x.2.2.2]
abbrev encE (x : EC) : Value := .agg #[.int .i64 x.1, .bool x.2.1, sv x.2.2.1, sv x.2.2.2]
theorem entC_len (x : EC) : (entC x).length = 4 := rfl
def Ae (post : List Value) (w : World) (b : Nat) (T : TypeId) (xs : List EC) (n : Nat) : Prop := Bk w b T ((xs.map entC).flatten ++ post) ∧ xs.length = n
section
variable {w w' : World} {b n : Nat} {T : TypeId} {xs : List EC} {D : Nat → TypeId → Prop} {post : List Value}
theorem Ae.ext (h : Ae post w b T xs n) (e : Ext w w') : Ae post w' b T xs n := ⟨h.1.ext e, h.2⟩
theorem Ae.exc {b0 : Nat} (h : Ae post w b T xs n) (e : Exc b0 w w') (hne : b ≠ b0) : Ae post w' b T xs n := ⟨h.1.exc e hne, h.2⟩
theorem Ae.lt (h : Ae post w b T xs n) : b < w.heap.size := h.1.lt
theorem Ae.len (h : Ae post w b T xs n) : xs.length = n := h.2
theorem Ae.sm (h : Ae post w b T xs n) (e : Exc b w w') (hD : ¬ D b T) : Sm D w w' := h.1.sm e hD
theorem noU_flat (xs : List EC) : NoU (xs.map entC).flatten := by
  intro u hu
  obtain ⟨l, hl, hu⟩ := List.mem_flatten.1 hu
  obtain ⟨x, -, rfl⟩ := List.mem_map.1 hl
  simp [entC] at hu
  rcases hu with rfl | rfl | rfl | rfl <;> rfl
theorem Ae.nb (h : Ae post w b T xs n) (hp : NoU post) : Nb w b := ⟨T, _, h.1, fun u hu => (List.mem_append.1 hu).elim (noU_flat xs u) (hp u)⟩
theorem Ae.cell (h : Ae post w b T xs n) {i : Int} (k : Nat) (hi : i = (k : Int)) (hk : k < n) : ∀ j u, (entC (xs.getD k default))[j]? = some u → w.cell? ⟨b, 0 + i.toNat * 4 + j, none⟩ = some u := fun j u hj => by
  obtain ⟨h1, h2⟩ := h
  subst hi
  have hx : xs[k]? = some (xs.getD k default) := by simp [show k < xs.length by omega]
  refine h1.cell ?_
  rw [Nat.zero_add, Int.toNat_natCast]
  have h4 := flat_at (c := entC) (fun x _ => entC_len x) hx hj
  rw [List.getElem?_append_left (by obtain ⟨h5, -⟩ := List.getElem?_eq_some_iff.1 h4; exact h5)]
  exact h4
theorem Ae.cellr (h : Ae post w b T xs n) {i : Int} (k : Nat) (hi : i = (k : Int)) (hk : k < n) : ∀ j u, (ratC ((xs.getD k default).2.1, sv (xs.getD k default).2.2.1, sv (xs.getD k default).2.2.2))[j]? = some u → w.cell? ⟨b, 0 + i.toNat * 4 + 1 + j, none⟩ = some u := fun j u hj => by
  have := h.cell k hi hk (1 + j) u (by
    match j, hj with
    | 0, hj => exact hj
    | 1, hj => exact hj
    | 2, hj => exact hj
    | j + 3, hj => simp at hj)
  rw [Nat.add_assoc]; exact this
theorem Ae.ss {c : Nat} (h : Ae post w b T xs n) (hd : D b T) (hc : n ≤ c) (hm : c ≤ 9223372036854775807) : Ss entC 4 D w (.slice (some ⟨b, 0, none⟩) n c) xs := by
  obtain ⟨h1, h2⟩ := h
  refine ⟨⟨by decide, fun x _ => entC_len x⟩, _, c, by rw [h2], by rw [h2]; exact hc, by simpa [maxLen] using hm, by rw [flat_len entC_len], .inr ⟨b, 0, rfl, .inr ⟨_, T, (0, 0), h1, hd, fun j u hj => ?_⟩⟩⟩
  rw [Nat.zero_add, List.getElem?_toArray, List.getElem?_append_left (by obtain ⟨h5, -⟩ := List.getElem?_eq_some_iff.1 hj; exact h5)]
  exact hj
end
theorem one_ent (x : EC) : ∀ q ∈ entC x, q.oneCell' = true := by
  intro q hq
  simp [entC] at hq
  rcases hq with rfl | rfl | rfl | rfl <;> rfl
section
variable {P : Program} {f : Nat → Value} {w : World} {dst : Option Tmp} {ty : TypeId} {pos : String} {aft : Array Edge} {gd : Option (Nat × Bool)} {x y z : Operand} {t e : TypeId}
theorem spl_post (l cs p : List Value) (o : Nat) (h : o + cs.length ≤ l.length) : spl (l ++ p) o cs = spl l o cs ++ p := by
  unfold spl
  rw [List.take_append_of_le_length oM, List.drop_append_of_le_length h]
  simp
theorem h_setE {post : List Value} {T : TypeId} {b n bytes : Nat} {xs : List EC} {u : EC} {i : Int} {vv zz : Value} (ht : TyI P t 4 bytes zz) (hx : ev f x = .pointer (some ⟨b, 0 + i.toNat * 4, none⟩)) (hy : ev f y = vv) (hv : vv.cells = (entC u).toArray)
    (ha : Ae post w b T xs n) (k : Nat) (hi : i = (k : Int)) (hk : k < n) :
    RunS P f ⟨dst, .store t x y, ty, pos, aft, gd⟩ w fun w' => Ae post w' b T (xs.set k u) n ∧ Exc b w w' := by
  obtain ⟨hb, hl⟩ := ha
  subst hi
  have hk' : k < xs.length := by omega
  have e1 : 0 + ((k : Int)).toNat * 4 = k * 4 := by rw [Int.toNat_natCast, Nat.zero_add]
  rw [e1] at hx
  have hfit : k * 4 + (entC u).length ≤ (xs.map entC).flatten.length := by rw [flat_len entC_len, entC_len]; omega
  obtain ⟨w', hr, h5, h6, _⟩ := h_store (P := P) (f := f) (dst := dst) (ty := ty) (pos := pos) (aft := aft) (g := gd) (cs := entC u) ht hx hy hv (entC_len u) (one_ent u) hb (by rw [List.length_append]; omega)
  refine ⟨w', hr, ⟨?_, by simpa using hl⟩, h6⟩
  rw [spl_post _ _ _ _ hfit, flat_set entC_len xs k u hk'] at h5
  exact h5
theorem spl_in (l : List Value) (o : Nat) (a b c : List Value) (h : spl l o a = l) (hl : o + a.length ≤ l.length) (ha : a.length = b.length) {m : Nat} (hm : m + c.length ≤ a.length) (hc : spl a m c = b) : spl l (o + m) c = spl l o b := by
  unfold spl at *
  have ht : (l.take o).length = o := by rw [List.length_take]; omega
  rw [← h, ← hc]
  have e0 : (l.take o ++ a ++ l.drop (o + a.length)) = l.take o ++ (a ++ l.drop (o + a.length)) := by rw [List.append_assoc]
  have hb : (a.take m ++ c ++ a.drop (m + c.length)).length = a.length := by simp; omega
  rw [e0, List.take_append, List.drop_append, ht]
  rw [List.take_of_length_le (show (l.take o).length ≤ o + m by omega), List.drop_of_length_le (show (l.take o).length ≤ o + m + c.length by omega)]
  rw [show o + m - o = m by omega, show o + m + c.length - o = m + c.length by omega, List.take_append_of_le_length oM, List.drop_append_of_le_length oM]
  rw [List.take_append, List.take_of_length_le (show (l.take o).length ≤ o by omega), ht, Nat.sub_self, List.take_zero, List.append_nil]
  rw [hb, List.drop_append, List.drop_of_length_le (show (l.take o).length ≤ o + a.length by omega), ht, show o + a.length - o = a.length by omega, List.drop_append, List.drop_of_length_le (show a.length ≤ a.length by omega), Nat.sub_self, List.drop_zero]
  simp
theorem h_setP {post : List Value} {T : TypeId} {b n bytes size m : Nat} {xs : List EC} {u : EC} {cs : List Value} {i : Int} {vv zz : Value} (ht : TyI P t size bytes zz) (hx : ev f x = .pointer (some ⟨b, 0 + i.toNat * 4 + m, none⟩)) (hy : ev f y = vv) (hv : vv.cells = cs.toArray) (hs : cs.length = size) (h1 : ∀ q ∈ cs, q.oneCell' = true)
    (ha : Ae post w b T xs n) (k : Nat) (hi : i = (k : Int)) (hk : k < n) (hm : m + cs.length ≤ 4) (hu : spl (entC (xs.getD k default)) m cs = entC u) :
    RunS P f ⟨dst, .store t x y, ty, pos, aft, gd⟩ w fun w' => Ae post w' b T (xs.set k u) n ∧ Exc b w w' := by
  obtain ⟨hb, hl⟩ := ha
  subst hi
  have hk' : k < xs.length := by omega
  have e1 : 0 + ((k : Int)).toNat * 4 + m = k * 4 + m := by rw [Int.toNat_natCast, Nat.zero_add]
  rw [e1] at hx
  have hfl := flat_len entC_len xs
  have hfit : k * 4 + m + cs.length ≤ (xs.map entC).flatten.length := by rw [hfl]; omega
  obtain ⟨w', hr, h5, h6, _⟩ := h_store (P := P) (f := f) (dst := dst) (ty := ty) (pos := pos) (aft := aft) (g := gd) (cs := cs) ht hx hy hv hs h1 hb (by rw [List.length_append]; omega)
  refine ⟨w', hr, ⟨?_, by simpa using hl⟩, h6⟩
  have hself : spl (xs.map entC).flatten (k * 4) (entC (xs.getD k default)) = (xs.map entC).flatten := by
    rw [flat_set entC_len xs k _ hk']
    congr 2
    rw [List.getD_eq_getElem?_getD, List.getElem?_eq_getElem hk', Option.getD_some]
    exact List.set_getElem_self hk'
  rw [spl_post _ _ _ _ hfit, spl_in _ _ (entC (xs.getD k default)) (entC u) cs hself (by rw [entC_len]; omega) rfl (by rw [entC_len]; exact hm) hu, flat_set entC_len xs k u hk'] at h5
  exact h5
end
end Go.Vg
