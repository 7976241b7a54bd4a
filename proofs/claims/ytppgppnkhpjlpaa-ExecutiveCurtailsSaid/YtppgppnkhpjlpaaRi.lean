/- Walks, printed by program. -/
import Derived.Test.YtppgppnkhpjlpaaRh
namespace Go.Proofs.Ytppgppnkhpjlpaa
open Go.Vg Go.RowKit
set_option linter.unusedVariables false

open Go.Vm
set_option maxHeartbeats 4000000 in
theorem r03_add {w : World} {sx : Bool} {Dx Ex : Nat → TypeId → Prop} {vx ux : Value} {x dx : List Nat} (hx : Sg (gN .u32) Dx w vx x) (lmx : Lm x) (lnx : x.length ≤ 17179869184) (hdx : Sg (gN .u32) Ex w ux dx) (lmdx : Lm dx) (lndx : dx.length ≤ 17179869184) {qx : Rat} (ex : ratOf sx (val x) (val dx) = qx) {sy : Bool} {Dy Ey : Nat → TypeId → Prop} {vy uy : Value} {y dy : List Nat} (hy : Sg (gN .u32) Dy w vy y) (lmy : Lm y) (lny : y.length ≤ 17179869184) (hdy : Sg (gN .u32) Ey w uy dy) (lmdy : Lm dy) (lndy : dy.length ≤ 17179869184) {qy : Rat} (ey : ratOf sy (val y) (val dy) = qy) :
    Calls Try.prog 49 #[(.agg #[(.bool (sx)), vx, ux]), (.agg #[(.bool (sy)), vy, uy])] w fun e w' => ∃ v, e = .returned v ∧ (∃ vn vd, v = .agg #[.bool (decide ((qx + qy).num < 0)), vn, vd] ∧ Sg (gN .u32) (fun b T => w.heap.size ≤ b ∧ T = 52) w' vn (digs (qx + qy).num.natAbs) ∧ Sg (gN .u32) (fun b T => w.heap.size ≤ b ∧ T = 52) w' vd (digs (qx + qy).den) ∧ (digs (qx + qy).num.natAbs).length ≤ max (x.length + dy.length) (y.length + dx.length) + 2 ∧ (digs (qx + qy).den).length ≤ dx.length + dy.length + 3) ∧ Ext w w' := by
  have hE : Below w.heap.size w w := Below.refl _ _
  have hlqx := rl_of lmx lmdx ex
  have hdqx := den_one qx
  have hlqy := rl_of lmy lmdy ey
  have hdqy := den_one qy
  refine calls_of (n := 28) (rs := [.cell 4 42]) Try.func49 rfl rfl rfl (Nat.le_of_ble_eq_true rfl) ?_
  refine wset fun F0 hF0 => ?_
  refine wseq ?_
  refine wregion ?_
  refine RL.run rfl rfl (by decide) (h_box (vv := (.agg #[(.bool (sx)), vx, ux])) (cs := [(.bool (sx)), vx, ux]) (hF0 0) rfl) ?_
  rintro _ w1 ⟨b2, rfl, hs5, hb4, he3⟩
  have ge_b2 : w.heap.size ≤ b2 := by rw [hs5]; exact hE.size
  replace hE := Below.ext hE hE.size he3
  refine RL.run rfl rfl (by decide) (h_box (vv := (.agg #[(.bool (sy)), vy, uy])) (cs := [(.bool (sy)), vy, uy]) (hF0 1) rfl) ?_
  rintro _ w6 ⟨b7, rfl, hs10, hb9, he8⟩
  have lt_b2_b7 := Nat.lt_of_lt_of_eq hb4.lt hs10.symm
  have ge_b7 : w.heap.size ≤ b7 := by rw [hs10]; exact hE.size
  replace hE := Below.ext hE hE.size he8
  refine RL.run rfl rfl (by decide) (h_alloc (cs := [(.bool false), (.slice none 0 0), (.slice none 0 0)]) ty42 rfl) ?_
  rintro _ w11 ⟨b12, rfl, hs15, hb14, he13⟩
  have lt_b7_b12 := Nat.lt_of_lt_of_eq hb9.lt hs15.symm
  have ge_b12 : w.heap.size ≤ b12 := by rw [hs15]; exact hE.size
  replace hE := Below.ext hE hE.size he13
  refine RL.nil ?_
  refine wset fun F16 hF17 => ?_
  refine wcut (fun fl wl => ∃ b44 : Nat, ∃ b50 : Nat, ∃ vn25 : Value, ∃ vd27 : Value, ∃ vn35 : Value, ∃ vd37 : Value, Off [5, 6, 7, 8, 9, 10] F16 fl ∧ fl 5 = (.pointer (some ⟨b44, 0, none⟩)) ∧ fl 6 = (.pointer (some ⟨b50, 0, none⟩)) ∧ (w.heap.size ≤ b44) ∧ (b12 < b44) ∧ (w.heap.size ≤ b50) ∧ (b12 < b50) ∧ (b44 ≠ b50) ∧ (Sg (gN .u32) Dx wl vx x) ∧ (Sg (gN .u32) Dy wl vy y) ∧ (Sg (gN .u32) Ex wl ux dx) ∧ (Sg (gN .u32) Ey wl uy dy) ∧ (Below w.heap.size w wl) ∧ (Bk wl b2 42 [(.bool (sx)), vx, ux]) ∧ (Bk wl b7 42 [(.bool (sy)), vy, uy]) ∧ (Bk wl b12 42 [(.bool false), (.slice none 0 0), (.slice none 0 0)]) ∧ (Sg (gN .u32) (fun b T => w.heap.size ≤ b ∧ T = 52) wl vn25 (digs qx.num.natAbs)) ∧ (Sg (gN .u32) (fun b T => w.heap.size ≤ b ∧ T = 52) wl vd27 (digs qx.den)) ∧ (Sg (gN .u32) (fun b T => w.heap.size ≤ b ∧ T = 52) wl vn35 (digs qy.num.natAbs)) ∧ (Sg (gN .u32) (fun b T => w.heap.size ≤ b ∧ T = 52) wl vd37 (digs qy.den)) ∧ (Bk wl b44 42 [(.bool (decide (qx.num < 0))), vn25, vd27]) ∧ (Bk wl b50 42 [(.bool (decide (qy.num < 0))), vn35, vd37])) ?_ ?_
  · have hoff62 := Off.refl [5, 6, 7, 8, 9, 10] F16
    refine wdraw mixed fun w63 he64 => ?_
    replace hE := Below.ext hE hE.size he64
    have hm66 := Ext.trans he8 (Ext.trans he13 he64)
    replace hb4 := hb4.ext hm66
    have hc65 := hb4.cells (o := 0) (cs := [(.bool (sx)), vx, ux]) rfl
    refine RA.rd 0 rfl (by kernel_rfl) rfl rfl rfl (by decide) (Ext.refl _) (fun u hu => r_loada (o := 0) (cs := [(.bool (sx)), vx, ux]) Try.underlying42 ag42 ty42 (hF17 2) (fun j v hj => cell_ext hu (hc65 j v hj))) ?_
    replace hb9 := hb9.ext (Ext.trans he13 he64)
    have hc67 := hb9.cells (o := 0) (cs := [(.bool (sy)), vy, uy]) rfl
    refine RA.rd 2 rfl (by kernel_rfl) rfl rfl rfl (by decide) (Ext.refl _) (fun u hu => r_loada (o := 0) (cs := [(.bool (sy)), vy, uy]) Try.underlying42 ag42 ty42 (hF17 3) (fun j v hj => cell_ext hu (hc67 j v hj))) ?_
    refine RA.all [1, 4, 5] (by kernel_rfl) rfl ?_
    have hm76 := Ext.trans he3 (Ext.trans he8 (Ext.trans he13 he64))
    replace hx := hx.tr (Sm.ext hm76)
    replace hdx := hdx.tr (Sm.ext hm76)
    refine RS.call rfl rfl rfl (by decide) (r_call (vl := [(.agg #[(.bool (sx)), vx, ux])]) ent38 rfl) (r03_norm hx (by assumption) (by first | omega | simp) hdx (by assumption) (by first | omega | simp) (show ratOf sx (val x) (val dx) = qx from ex)) ?_ ?_
    · rintro _ w68 ⟨⟨vn70, vd72, rfl, hn71, hd73, hl74, hl75⟩, he69⟩
      refine ⟨.inr (.inr he69), RA.more (S' := fun u => Ext _ u) (fun u hu => Ext.trans he69 hu) ?_⟩
      have hlv77 := den_one qx
      replace hn71 := hn71.mono (D' := fun b T => w.heap.size ≤ b ∧ T = 52) (fun b T h => ⟨Nat.le_trans hE.size h.1, h.2⟩)
      replace hd73 := hd73.mono (D' := fun b T => w.heap.size ≤ b ∧ T = 52) (fun b T h => ⟨Nat.le_trans hE.size h.1, h.2⟩)
      replace hE := Below.ext hE hE.size he69
      refine RA.all [3, 4, 5] (by kernel_rfl) rfl ?_
      have hm86 := Ext.trans hm76 he69
      replace hy := hy.tr (Sm.ext hm86)
      replace hdy := hdy.tr (Sm.ext hm86)
      refine RS.call rfl rfl rfl (by decide) (r_call (vl := [(.agg #[(.bool (sy)), vy, uy])]) ent38 rfl) (r03_norm hy (by assumption) (by first | omega | simp) hdy (by assumption) (by first | omega | simp) (show ratOf sy (val y) (val dy) = qy from ey)) ?_ ?_
      · rintro _ w78 ⟨⟨vn80, vd82, rfl, hn81, hd83, hl84, hl85⟩, he79⟩
        refine ⟨.inr (.inr he79), RA.more (S' := fun u => Ext _ u) (fun u hu => Ext.trans he79 hu) ?_⟩
        have hlv87 := den_one qy
        replace hn81 := hn81.mono (D' := fun b T => w.heap.size ≤ b ∧ T = 52) (fun b T h => ⟨Nat.le_trans hE.size h.1, h.2⟩)
        replace hd83 := hd83.mono (D' := fun b T => w.heap.size ≤ b ∧ T = 52) (fun b T h => ⟨Nat.le_trans hE.size h.1, h.2⟩)
        replace hE := Below.ext hE hE.size he79
        refine RA.all [4, 5] (by kernel_rfl) rfl ?_
        refine RS.run rfl rfl rfl (by decide) (h_alloc (cs := [(.bool false), (.slice none 0 0), (.slice none 0 0)]) ty42 rfl) ?_ ?_
        · rintro _ w88 ⟨b89, rfl, hs92, hb91, he90⟩
          refine ⟨.inr (.inr he90), RA.more (S' := fun u => Ext _ u) (fun u hu => Ext.trans he90 hu) ?_⟩
          have hm93 := Ext.trans he64 (Ext.trans he69 he79)
          replace hb14 := hb14.ext hm93
          have lt_b12_b89 := Nat.lt_of_lt_of_eq hb14.lt hs92.symm
          have ge_b89 : w.heap.size ≤ b89 := by rw [hs92]; exact hE.size
          replace hE := Below.ext hE hE.size he90
          refine RA.all [5] (by kernel_rfl) rfl ?_
          refine RS.run rfl rfl rfl (by decide) (h_alloc (cs := [(.bool false), (.slice none 0 0), (.slice none 0 0)]) ty42 rfl) ?_ RS.nil
          rintro _ w94 ⟨b95, rfl, hs98, hb97, he96⟩
          refine ⟨.inr (.inr he96), RA.more (S' := fun u => Ext _ u) (fun u hu => Ext.trans he96 hu) ?_⟩
          have lt_b89_b95 := Nat.lt_of_lt_of_eq hb91.lt hs98.symm
          have ge_b95 : w.heap.size ≤ b95 := by rw [hs98]; exact hE.size
          replace hE := Below.ext hE hE.size he96
          refine RA.all [6] (by kernel_rfl) rfl ?_
          replace hb91 := hb91.ext he96
          refine RS.runs rfl rfl rfl (h_store (vv := (.agg #[(.bool (decide (qx.num < 0))), vn70, vd72])) (cs := [(.bool (decide (qx.num < 0))), vn70, vd72]) (o := 0) ty42 rfl rfl rfl rfl (one_cons rfl (one_cons hn71.one (one_cons hd73.one one_nil))) hb91 (Nat.le_of_ble_eq_true rfl)) ?_ RS.nil
          rintro w99 ⟨hn100, hx101, hz102⟩
          refine ⟨.inr (.inl (by kernel_rfl)), ?_⟩
          replace hE := Below.exc hE hE.size hx101 ge_b89
          have nb_hx101 := (Nb.of hb91 (nu_cons rfl (nu_cons rfl (nu_cons rfl nu_nil))))
          replace hb91 : Bk w99 b89 42 [(.bool (decide (qx.num < 0))), vn70, vd72] := hn100
          refine RA.all [7] (by kernel_rfl) rfl ?_
          replace hb97 := hb97.exc hx101 (Nat.ne_of_gt lt_b89_b95)
          refine RS.runs rfl rfl rfl (h_store (vv := (.agg #[(.bool (decide (qy.num < 0))), vn80, vd82])) (cs := [(.bool (decide (qy.num < 0))), vn80, vd82]) (o := 0) ty42 rfl rfl rfl rfl (one_cons rfl (one_cons hn81.one (one_cons hd83.one one_nil))) hb97 (Nat.le_of_ble_eq_true rfl)) ?_ RS.nil
          rintro w103 ⟨hn104, hx105, hz106⟩
          refine ⟨.inr (.inl (by kernel_rfl)), ?_⟩
          replace hE := Below.exc hE hE.size hx105 ge_b95
          have nb_hx105 := (Nb.of hb97 (nu_cons rfl (nu_cons rfl (nu_cons rfl nu_nil))))
          replace hb97 : Bk w103 b95 42 [(.bool (decide (qy.num < 0))), vn80, vd82] := hn104
          refine RA.done (by kernel_rfl) ?_
          have hm107 := Ext.trans he69 (Ext.trans he79 (Ext.trans he90 he96))
          replace hx := ((hx.tr (Sm.ext hm107)).apn hx101 nb_hx101).apn hx105 nb_hx105
          have hm108 := Ext.trans he79 (Ext.trans he90 he96)
          replace hy := ((hy.tr (Sm.ext hm108)).apn hx101 nb_hx101).apn hx105 nb_hx105
          replace hdx := ((hdx.tr (Sm.ext hm107)).apn hx101 nb_hx101).apn hx105 nb_hx105
          replace hdy := ((hdy.tr (Sm.ext hm108)).apn hx101 nb_hx101).apn hx105 nb_hx105
          replace hb4 := ((hb4.ext hm107).exc hx101 (Nat.ne_of_lt (Nat.lt_trans lt_b2_b7 (Nat.lt_trans lt_b7_b12 lt_b12_b89)))).exc hx105 (Nat.ne_of_lt (Nat.lt_trans lt_b2_b7 (Nat.lt_trans lt_b7_b12 (Nat.lt_trans lt_b12_b89 lt_b89_b95))))
          replace hb9 := ((hb9.ext hm107).exc hx101 (Nat.ne_of_lt (Nat.lt_trans lt_b7_b12 lt_b12_b89))).exc hx105 (Nat.ne_of_lt (Nat.lt_trans lt_b7_b12 (Nat.lt_trans lt_b12_b89 lt_b89_b95)))
          replace hb14 := ((hb14.ext (Ext.trans he90 he96)).exc hx101 (Nat.ne_of_lt lt_b12_b89)).exc hx105 (Nat.ne_of_lt (Nat.lt_trans lt_b12_b89 lt_b89_b95))
          replace hn71 := ((hn71.tr (Sm.ext hm108)).apn hx101 nb_hx101).apn hx105 nb_hx105
          replace hd73 := ((hd73.tr (Sm.ext hm108)).apn hx101 nb_hx101).apn hx105 nb_hx105
          replace hn81 := ((hn81.tr (Sm.ext (Ext.trans he90 he96))).apn hx101 nb_hx101).apn hx105 nb_hx105
          replace hd83 := ((hd83.tr (Sm.ext (Ext.trans he90 he96))).apn hx101 nb_hx101).apn hx105 nb_hx105
          replace hb91 := hb91.exc hx105 (Nat.ne_of_lt lt_b89_b95)
          refine ⟨b89, b95, vn70, vd72, vn80, vd82, ?_, ?_, ?_, ?_, ?_, ?_, ?_, ?_, ?_, ?_, ?_, ?_, ?_, ?_, ?_, ?_, ?_, ?_, ?_, ?_, ?_, ?_⟩
          · exact (by repeat (first | exact hoff62 | refine Off.st ?_ (by decide) _))
          · exact rfl
          · exact rfl
          · exact ge_b89
          · exact lt_b12_b89
          · exact ge_b95
          · exact (Nat.lt_trans lt_b12_b89 lt_b89_b95)
          · exact (Nat.ne_of_lt lt_b89_b95)
          · exact hx
          · exact hy
          · exact hdx
          · exact hdy
          · exact hE
          · exact hb4
          · exact hb9
          · exact hb14
          · exact hn71
          · exact hd73
          · exact hn81
          · exact hd83
          · exact hb91
          · exact hb97
        · refine RS.run rfl rfl rfl (by decide) (h_alloc (cs := [(.bool false), (.slice none 0 0), (.slice none 0 0)]) ty42 rfl) ?_ RS.nil
          rintro _ w109 ⟨b110, rfl, hs113, hb112, he111⟩
          refine ⟨.inr (.inr he111), RA.more (S' := fun u => Ext _ u) (fun u hu => Ext.trans he111 hu) ?_⟩
          have hm114 := Ext.trans he64 (Ext.trans he69 he79)
          replace hb14 := hb14.ext hm114
          have lt_b12_b110 := Nat.lt_of_lt_of_eq hb14.lt hs113.symm
          have ge_b110 : w.heap.size ≤ b110 := by rw [hs113]; exact hE.size
          replace hE := Below.ext hE hE.size he111
          refine RA.all [4] (by kernel_rfl) rfl ?_
          refine RS.run rfl rfl rfl (by decide) (h_alloc (cs := [(.bool false), (.slice none 0 0), (.slice none 0 0)]) ty42 rfl) ?_ RS.nil
          rintro _ w115 ⟨b116, rfl, hs119, hb118, he117⟩
          refine ⟨.inr (.inr he117), RA.more (S' := fun u => Ext _ u) (fun u hu => Ext.trans he117 hu) ?_⟩
          have lt_b110_b116 := Nat.lt_of_lt_of_eq hb112.lt hs119.symm
          have ge_b116 : w.heap.size ≤ b116 := by rw [hs119]; exact hE.size
          replace hE := Below.ext hE hE.size he117
          refine RA.all [6] (by kernel_rfl) rfl ?_
          refine RS.runs rfl rfl rfl (h_store (vv := (.agg #[(.bool (decide (qx.num < 0))), vn70, vd72])) (cs := [(.bool (decide (qx.num < 0))), vn70, vd72]) (o := 0) ty42 rfl rfl rfl rfl (one_cons rfl (one_cons hn71.one (one_cons hd73.one one_nil))) hb118 (Nat.le_of_ble_eq_true rfl)) ?_ RS.nil
          rintro w120 ⟨hn121, hx122, hz123⟩
          refine ⟨.inr (.inl (by kernel_rfl)), ?_⟩
          replace hE := Below.exc hE hE.size hx122 ge_b116
          have nb_hx122 := (Nb.of hb118 (nu_cons rfl (nu_cons rfl (nu_cons rfl nu_nil))))
          replace hb118 : Bk w120 b116 42 [(.bool (decide (qx.num < 0))), vn70, vd72] := hn121
          refine RA.all [7] (by kernel_rfl) rfl ?_
          replace hb112 := (hb112.ext he117).exc hx122 (Nat.ne_of_lt lt_b110_b116)
          refine RS.runs rfl rfl rfl (h_store (vv := (.agg #[(.bool (decide (qy.num < 0))), vn80, vd82])) (cs := [(.bool (decide (qy.num < 0))), vn80, vd82]) (o := 0) ty42 rfl rfl rfl rfl (one_cons rfl (one_cons hn81.one (one_cons hd83.one one_nil))) hb112 (Nat.le_of_ble_eq_true rfl)) ?_ RS.nil
          rintro w124 ⟨hn125, hx126, hz127⟩
          refine ⟨.inr (.inl (by kernel_rfl)), ?_⟩
          replace hE := Below.exc hE hE.size hx126 ge_b110
          have nb_hx126 := (Nb.of hb112 (nu_cons rfl (nu_cons rfl (nu_cons rfl nu_nil))))
          replace hb112 : Bk w124 b110 42 [(.bool (decide (qy.num < 0))), vn80, vd82] := hn125
          refine RA.done (by kernel_rfl) ?_
          have hm128 := Ext.trans he69 (Ext.trans he79 (Ext.trans he111 he117))
          replace hx := ((hx.tr (Sm.ext hm128)).apn hx122 nb_hx122).apn hx126 nb_hx126
          have hm129 := Ext.trans he79 (Ext.trans he111 he117)
          replace hy := ((hy.tr (Sm.ext hm129)).apn hx122 nb_hx122).apn hx126 nb_hx126
          replace hdx := ((hdx.tr (Sm.ext hm128)).apn hx122 nb_hx122).apn hx126 nb_hx126
          replace hdy := ((hdy.tr (Sm.ext hm129)).apn hx122 nb_hx122).apn hx126 nb_hx126
          replace hb4 := ((hb4.ext hm128).exc hx122 (Nat.ne_of_lt (Nat.lt_trans lt_b2_b7 (Nat.lt_trans lt_b7_b12 (Nat.lt_trans lt_b12_b110 lt_b110_b116))))).exc hx126 (Nat.ne_of_lt (Nat.lt_trans lt_b2_b7 (Nat.lt_trans lt_b7_b12 lt_b12_b110)))
          replace hb9 := ((hb9.ext hm128).exc hx122 (Nat.ne_of_lt (Nat.lt_trans lt_b7_b12 (Nat.lt_trans lt_b12_b110 lt_b110_b116)))).exc hx126 (Nat.ne_of_lt (Nat.lt_trans lt_b7_b12 lt_b12_b110))
          replace hb14 := ((hb14.ext (Ext.trans he111 he117)).exc hx122 (Nat.ne_of_lt (Nat.lt_trans lt_b12_b110 lt_b110_b116))).exc hx126 (Nat.ne_of_lt lt_b12_b110)
          replace hn71 := ((hn71.tr (Sm.ext hm129)).apn hx122 nb_hx122).apn hx126 nb_hx126
          replace hd73 := ((hd73.tr (Sm.ext hm129)).apn hx122 nb_hx122).apn hx126 nb_hx126
          replace hn81 := ((hn81.tr (Sm.ext (Ext.trans he111 he117))).apn hx122 nb_hx122).apn hx126 nb_hx126
          replace hd83 := ((hd83.tr (Sm.ext (Ext.trans he111 he117))).apn hx122 nb_hx122).apn hx126 nb_hx126
          replace hb118 := hb118.exc hx126 (Nat.ne_of_gt lt_b110_b116)
          refine ⟨b116, b110, vn70, vd72, vn80, vd82, ?_, ?_, ?_, ?_, ?_, ?_, ?_, ?_, ?_, ?_, ?_, ?_, ?_, ?_, ?_, ?_, ?_, ?_, ?_, ?_, ?_, ?_⟩
          · exact (by repeat (first | exact hoff62 | refine Off.st ?_ (by decide) _))
          · exact rfl
          · exact rfl
          · exact ge_b116
          · exact (Nat.lt_trans lt_b12_b110 lt_b110_b116)
          · exact ge_b110
          · exact lt_b12_b110
          · exact (Nat.ne_of_gt lt_b110_b116)
          · exact hx
          · exact hy
          · exact hdx
          · exact hdy
          · exact hE
          · exact hb4
          · exact hb9
          · exact hb14
          · exact hn71
          · exact hd73
          · exact hn81
          · exact hd83
          · exact hb118
          · exact hb112
      · refine RS.run rfl rfl rfl (by decide) (h_alloc (cs := [(.bool false), (.slice none 0 0), (.slice none 0 0)]) ty42 rfl) ?_ ?_
        · rintro _ w130 ⟨b131, rfl, hs134, hb133, he132⟩
          refine ⟨.inr (.inr he132), RA.more (S' := fun u => Ext _ u) (fun u hu => Ext.trans he132 hu) ?_⟩
          replace hb14 := hb14.ext (Ext.trans he64 he69)
          have lt_b12_b131 := Nat.lt_of_lt_of_eq hb14.lt hs134.symm
          have ge_b131 : w.heap.size ≤ b131 := by rw [hs134]; exact hE.size
          replace hE := Below.ext hE hE.size he132
          refine RA.all [3, 5] (by kernel_rfl) rfl ?_
          replace hy := hy.tr (Sm.ext he132)
          replace hdy := hdy.tr (Sm.ext he132)
          refine RS.call rfl rfl rfl (by decide) (r_call (vl := [(.agg #[(.bool (sy)), vy, uy])]) ent38 rfl) (r03_norm hy (by assumption) (by first | omega | simp) hdy (by assumption) (by first | omega | simp) (show ratOf sy (val y) (val dy) = qy from ey)) ?_ ?_
          · rintro _ w135 ⟨⟨vn137, vd139, rfl, hn138, hd140, hl141, hl142⟩, he136⟩
            refine ⟨.inr (.inr he136), RA.more (S' := fun u => Ext _ u) (fun u hu => Ext.trans he136 hu) ?_⟩
            have hlv143 := den_one qy
            replace hn138 := hn138.mono (D' := fun b T => w.heap.size ≤ b ∧ T = 52) (fun b T h => ⟨Nat.le_trans hE.size h.1, h.2⟩)
            replace hd140 := hd140.mono (D' := fun b T => w.heap.size ≤ b ∧ T = 52) (fun b T h => ⟨Nat.le_trans hE.size h.1, h.2⟩)
            replace hE := Below.ext hE hE.size he136
            refine RA.all [5] (by kernel_rfl) rfl ?_
            refine RS.run rfl rfl rfl (by decide) (h_alloc (cs := [(.bool false), (.slice none 0 0), (.slice none 0 0)]) ty42 rfl) ?_ RS.nil
            rintro _ w144 ⟨b145, rfl, hs148, hb147, he146⟩
            refine ⟨.inr (.inr he146), RA.more (S' := fun u => Ext _ u) (fun u hu => Ext.trans he146 hu) ?_⟩
            replace hb133 := hb133.ext he136
            have lt_b131_b145 := Nat.lt_of_lt_of_eq hb133.lt hs148.symm
            have ge_b145 : w.heap.size ≤ b145 := by rw [hs148]; exact hE.size
            replace hE := Below.ext hE hE.size he146
            refine RA.all [6] (by kernel_rfl) rfl ?_
            replace hb133 := hb133.ext he146
            refine RS.runs rfl rfl rfl (h_store (vv := (.agg #[(.bool (decide (qx.num < 0))), vn70, vd72])) (cs := [(.bool (decide (qx.num < 0))), vn70, vd72]) (o := 0) ty42 rfl rfl rfl rfl (one_cons rfl (one_cons hn71.one (one_cons hd73.one one_nil))) hb133 (Nat.le_of_ble_eq_true rfl)) ?_ RS.nil
            rintro w149 ⟨hn150, hx151, hz152⟩
            refine ⟨.inr (.inl (by kernel_rfl)), ?_⟩
            replace hE := Below.exc hE hE.size hx151 ge_b131
            have nb_hx151 := (Nb.of hb133 (nu_cons rfl (nu_cons rfl (nu_cons rfl nu_nil))))
            replace hb133 : Bk w149 b131 42 [(.bool (decide (qx.num < 0))), vn70, vd72] := hn150
            refine RA.all [7] (by kernel_rfl) rfl ?_
            replace hb147 := hb147.exc hx151 (Nat.ne_of_gt lt_b131_b145)
            refine RS.runs rfl rfl rfl (h_store (vv := (.agg #[(.bool (decide (qy.num < 0))), vn137, vd139])) (cs := [(.bool (decide (qy.num < 0))), vn137, vd139]) (o := 0) ty42 rfl rfl rfl rfl (one_cons rfl (one_cons hn138.one (one_cons hd140.one one_nil))) hb147 (Nat.le_of_ble_eq_true rfl)) ?_ RS.nil
            rintro w153 ⟨hn154, hx155, hz156⟩
            refine ⟨.inr (.inl (by kernel_rfl)), ?_⟩
            replace hE := Below.exc hE hE.size hx155 ge_b145
            have nb_hx155 := (Nb.of hb147 (nu_cons rfl (nu_cons rfl (nu_cons rfl nu_nil))))
            replace hb147 : Bk w153 b145 42 [(.bool (decide (qy.num < 0))), vn137, vd139] := hn154
            refine RA.done (by kernel_rfl) ?_
            have hm157 := Ext.trans he69 (Ext.trans he132 (Ext.trans he136 he146))
            replace hx := ((hx.tr (Sm.ext hm157)).apn hx151 nb_hx151).apn hx155 nb_hx155
            replace hy := ((hy.tr (Sm.ext (Ext.trans he136 he146))).apn hx151 nb_hx151).apn hx155 nb_hx155
            replace hdx := ((hdx.tr (Sm.ext hm157)).apn hx151 nb_hx151).apn hx155 nb_hx155
            replace hdy := ((hdy.tr (Sm.ext (Ext.trans he136 he146))).apn hx151 nb_hx151).apn hx155 nb_hx155
            replace hb4 := ((hb4.ext hm157).exc hx151 (Nat.ne_of_lt (Nat.lt_trans lt_b2_b7 (Nat.lt_trans lt_b7_b12 lt_b12_b131)))).exc hx155 (Nat.ne_of_lt (Nat.lt_trans lt_b2_b7 (Nat.lt_trans lt_b7_b12 (Nat.lt_trans lt_b12_b131 lt_b131_b145))))
            replace hb9 := ((hb9.ext hm157).exc hx151 (Nat.ne_of_lt (Nat.lt_trans lt_b7_b12 lt_b12_b131))).exc hx155 (Nat.ne_of_lt (Nat.lt_trans lt_b7_b12 (Nat.lt_trans lt_b12_b131 lt_b131_b145)))
            have hm158 := Ext.trans he132 (Ext.trans he136 he146)
            replace hb14 := ((hb14.ext hm158).exc hx151 (Nat.ne_of_lt lt_b12_b131)).exc hx155 (Nat.ne_of_lt (Nat.lt_trans lt_b12_b131 lt_b131_b145))
            replace hn71 := ((hn71.tr (Sm.ext hm158)).apn hx151 nb_hx151).apn hx155 nb_hx155
            replace hd73 := ((hd73.tr (Sm.ext hm158)).apn hx151 nb_hx151).apn hx155 nb_hx155
            replace hn138 := ((hn138.tr (Sm.ext he146)).apn hx151 nb_hx151).apn hx155 nb_hx155
            replace hd140 := ((hd140.tr (Sm.ext he146)).apn hx151 nb_hx151).apn hx155 nb_hx155
            replace hb133 := hb133.exc hx155 (Nat.ne_of_lt lt_b131_b145)
            refine ⟨b131, b145, vn70, vd72, vn137, vd139, ?_, ?_, ?_, ?_, ?_, ?_, ?_, ?_, ?_, ?_, ?_, ?_, ?_, ?_, ?_, ?_, ?_, ?_, ?_, ?_, ?_, ?_⟩
            · exact (by repeat (first | exact hoff62 | refine Off.st ?_ (by decide) _))
            · exact rfl
            · exact rfl
            · exact ge_b131
            · exact lt_b12_b131
            · exact ge_b145
            · exact (Nat.lt_trans lt_b12_b131 lt_b131_b145)
            · exact (Nat.ne_of_lt lt_b131_b145)
            · exact hx
            · exact hy
            · exact hdx
            · exact hdy
            · exact hE
            · exact hb4
            · exact hb9
            · exact hb14
            · exact hn71
            · exact hd73
            · exact hn138
            · exact hd140
            · exact hb133
            · exact hb147
          · refine RS.run rfl rfl rfl (by decide) (h_alloc (cs := [(.bool false), (.slice none 0 0), (.slice none 0 0)]) ty42 rfl) ?_ RS.nil
            rintro _ w159 ⟨b160, rfl, hs163, hb162, he161⟩
            refine ⟨.inr (.inr he161), RA.more (S' := fun u => Ext _ u) (fun u hu => Ext.trans he161 hu) ?_⟩
            have lt_b131_b160 := Nat.lt_of_lt_of_eq hb133.lt hs163.symm
            have ge_b160 : w.heap.size ≤ b160 := by rw [hs163]; exact hE.size
            replace hE := Below.ext hE hE.size he161
            refine RA.all [3] (by kernel_rfl) rfl ?_
            replace hy := hy.tr (Sm.ext he161)
            replace hdy := hdy.tr (Sm.ext he161)
            refine RS.call rfl rfl rfl (by decide) (r_call (vl := [(.agg #[(.bool (sy)), vy, uy])]) ent38 rfl) (r03_norm hy (by assumption) (by first | omega | simp) hdy (by assumption) (by first | omega | simp) (show ratOf sy (val y) (val dy) = qy from ey)) ?_ RS.nil
            rintro _ w164 ⟨⟨vn166, vd168, rfl, hn167, hd169, hl170, hl171⟩, he165⟩
            refine ⟨.inr (.inr he165), RA.more (S' := fun u => Ext _ u) (fun u hu => Ext.trans he165 hu) ?_⟩
            have hlv172 := den_one qy
            replace hn167 := hn167.mono (D' := fun b T => w.heap.size ≤ b ∧ T = 52) (fun b T h => ⟨Nat.le_trans hE.size h.1, h.2⟩)
            replace hd169 := hd169.mono (D' := fun b T => w.heap.size ≤ b ∧ T = 52) (fun b T h => ⟨Nat.le_trans hE.size h.1, h.2⟩)
            replace hE := Below.ext hE hE.size he165
            refine RA.all [6] (by kernel_rfl) rfl ?_
            replace hb133 := hb133.ext (Ext.trans he161 he165)
            refine RS.runs rfl rfl rfl (h_store (vv := (.agg #[(.bool (decide (qx.num < 0))), vn70, vd72])) (cs := [(.bool (decide (qx.num < 0))), vn70, vd72]) (o := 0) ty42 rfl rfl rfl rfl (one_cons rfl (one_cons hn71.one (one_cons hd73.one one_nil))) hb133 (Nat.le_of_ble_eq_true rfl)) ?_ RS.nil
            rintro w173 ⟨hn174, hx175, hz176⟩
            refine ⟨.inr (.inl (by kernel_rfl)), ?_⟩
            replace hE := Below.exc hE hE.size hx175 ge_b131
            have nb_hx175 := (Nb.of hb133 (nu_cons rfl (nu_cons rfl (nu_cons rfl nu_nil))))
            replace hb133 : Bk w173 b131 42 [(.bool (decide (qx.num < 0))), vn70, vd72] := hn174
            refine RA.all [7] (by kernel_rfl) rfl ?_
            replace hb162 := (hb162.ext he165).exc hx175 (Nat.ne_of_gt lt_b131_b160)
            refine RS.runs rfl rfl rfl (h_store (vv := (.agg #[(.bool (decide (qy.num < 0))), vn166, vd168])) (cs := [(.bool (decide (qy.num < 0))), vn166, vd168]) (o := 0) ty42 rfl rfl rfl rfl (one_cons rfl (one_cons hn167.one (one_cons hd169.one one_nil))) hb162 (Nat.le_of_ble_eq_true rfl)) ?_ RS.nil
            rintro w177 ⟨hn178, hx179, hz180⟩
            refine ⟨.inr (.inl (by kernel_rfl)), ?_⟩
            replace hE := Below.exc hE hE.size hx179 ge_b160
            have nb_hx179 := (Nb.of hb162 (nu_cons rfl (nu_cons rfl (nu_cons rfl nu_nil))))
            replace hb162 : Bk w177 b160 42 [(.bool (decide (qy.num < 0))), vn166, vd168] := hn178
            refine RA.done (by kernel_rfl) ?_
            have hm181 := Ext.trans he69 (Ext.trans he132 (Ext.trans he161 he165))
            replace hx := ((hx.tr (Sm.ext hm181)).apn hx175 nb_hx175).apn hx179 nb_hx179
            replace hy := ((hy.tr (Sm.ext he165)).apn hx175 nb_hx175).apn hx179 nb_hx179
            replace hdx := ((hdx.tr (Sm.ext hm181)).apn hx175 nb_hx175).apn hx179 nb_hx179
            replace hdy := ((hdy.tr (Sm.ext he165)).apn hx175 nb_hx175).apn hx179 nb_hx179
            replace hb4 := ((hb4.ext hm181).exc hx175 (Nat.ne_of_lt (Nat.lt_trans lt_b2_b7 (Nat.lt_trans lt_b7_b12 lt_b12_b131)))).exc hx179 (Nat.ne_of_lt (Nat.lt_trans lt_b2_b7 (Nat.lt_trans lt_b7_b12 (Nat.lt_trans lt_b12_b131 lt_b131_b160))))
            replace hb9 := ((hb9.ext hm181).exc hx175 (Nat.ne_of_lt (Nat.lt_trans lt_b7_b12 lt_b12_b131))).exc hx179 (Nat.ne_of_lt (Nat.lt_trans lt_b7_b12 (Nat.lt_trans lt_b12_b131 lt_b131_b160)))
            have hm182 := Ext.trans he132 (Ext.trans he161 he165)
            replace hb14 := ((hb14.ext hm182).exc hx175 (Nat.ne_of_lt lt_b12_b131)).exc hx179 (Nat.ne_of_lt (Nat.lt_trans lt_b12_b131 lt_b131_b160))
            replace hn71 := ((hn71.tr (Sm.ext hm182)).apn hx175 nb_hx175).apn hx179 nb_hx179
            replace hd73 := ((hd73.tr (Sm.ext hm182)).apn hx175 nb_hx175).apn hx179 nb_hx179
            replace hn167 := (hn167.apn hx175 nb_hx175).apn hx179 nb_hx179
            replace hd169 := (hd169.apn hx175 nb_hx175).apn hx179 nb_hx179
            replace hb133 := hb133.exc hx179 (Nat.ne_of_lt lt_b131_b160)
            refine ⟨b131, b160, vn70, vd72, vn166, vd168, ?_, ?_, ?_, ?_, ?_, ?_, ?_, ?_, ?_, ?_, ?_, ?_, ?_, ?_, ?_, ?_, ?_, ?_, ?_, ?_, ?_, ?_⟩
            · exact (by repeat (first | exact hoff62 | refine Off.st ?_ (by decide) _))
            · exact rfl
            · exact rfl
            · exact ge_b131
            · exact lt_b12_b131
            · exact ge_b160
            · exact (Nat.lt_trans lt_b12_b131 lt_b131_b160)
            · exact (Nat.ne_of_lt lt_b131_b160)
            · exact hx
            · exact hy
            · exact hdx
            · exact hdy
            · exact hE
            · exact hb4
            · exact hb9
            · exact hb14
            · exact hn71
            · exact hd73
            · exact hn167
            · exact hd169
            · exact hb133
            · exact hb162
        · refine RS.run rfl rfl rfl (by decide) (h_alloc (cs := [(.bool false), (.slice none 0 0), (.slice none 0 0)]) ty42 rfl) ?_ RS.nil
          rintro _ w183 ⟨b184, rfl, hs187, hb186, he185⟩
          refine ⟨.inr (.inr he185), RA.more (S' := fun u => Ext _ u) (fun u hu => Ext.trans he185 hu) ?_⟩
          replace hb14 := hb14.ext (Ext.trans he64 he69)
          have lt_b12_b184 := Nat.lt_of_lt_of_eq hb14.lt hs187.symm
          have ge_b184 : w.heap.size ≤ b184 := by rw [hs187]; exact hE.size
          replace hE := Below.ext hE hE.size he185
          refine RA.all [3, 4] (by kernel_rfl) rfl ?_
          replace hy := hy.tr (Sm.ext he185)
          replace hdy := hdy.tr (Sm.ext he185)
          refine RS.call rfl rfl rfl (by decide) (r_call (vl := [(.agg #[(.bool (sy)), vy, uy])]) ent38 rfl) (r03_norm hy (by assumption) (by first | omega | simp) hdy (by assumption) (by first | omega | simp) (show ratOf sy (val y) (val dy) = qy from ey)) ?_ ?_
          · rintro _ w188 ⟨⟨vn190, vd192, rfl, hn191, hd193, hl194, hl195⟩, he189⟩
            refine ⟨.inr (.inr he189), RA.more (S' := fun u => Ext _ u) (fun u hu => Ext.trans he189 hu) ?_⟩
            have hlv196 := den_one qy
            replace hn191 := hn191.mono (D' := fun b T => w.heap.size ≤ b ∧ T = 52) (fun b T h => ⟨Nat.le_trans hE.size h.1, h.2⟩)
            replace hd193 := hd193.mono (D' := fun b T => w.heap.size ≤ b ∧ T = 52) (fun b T h => ⟨Nat.le_trans hE.size h.1, h.2⟩)
            replace hE := Below.ext hE hE.size he189
            refine RA.all [4] (by kernel_rfl) rfl ?_
            refine RS.run rfl rfl rfl (by decide) (h_alloc (cs := [(.bool false), (.slice none 0 0), (.slice none 0 0)]) ty42 rfl) ?_ RS.nil
            rintro _ w197 ⟨b198, rfl, hs201, hb200, he199⟩
            refine ⟨.inr (.inr he199), RA.more (S' := fun u => Ext _ u) (fun u hu => Ext.trans he199 hu) ?_⟩
            replace hb186 := hb186.ext he189
            have lt_b184_b198 := Nat.lt_of_lt_of_eq hb186.lt hs201.symm
            have ge_b198 : w.heap.size ≤ b198 := by rw [hs201]; exact hE.size
            replace hE := Below.ext hE hE.size he199
            refine RA.all [6] (by kernel_rfl) rfl ?_
            refine RS.runs rfl rfl rfl (h_store (vv := (.agg #[(.bool (decide (qx.num < 0))), vn70, vd72])) (cs := [(.bool (decide (qx.num < 0))), vn70, vd72]) (o := 0) ty42 rfl rfl rfl rfl (one_cons rfl (one_cons hn71.one (one_cons hd73.one one_nil))) hb200 (Nat.le_of_ble_eq_true rfl)) ?_ RS.nil
            rintro w202 ⟨hn203, hx204, hz205⟩
            refine ⟨.inr (.inl (by kernel_rfl)), ?_⟩
            replace hE := Below.exc hE hE.size hx204 ge_b198
            have nb_hx204 := (Nb.of hb200 (nu_cons rfl (nu_cons rfl (nu_cons rfl nu_nil))))
            replace hb200 : Bk w202 b198 42 [(.bool (decide (qx.num < 0))), vn70, vd72] := hn203
            refine RA.all [7] (by kernel_rfl) rfl ?_
            replace hb186 := (hb186.ext he199).exc hx204 (Nat.ne_of_lt lt_b184_b198)
            refine RS.runs rfl rfl rfl (h_store (vv := (.agg #[(.bool (decide (qy.num < 0))), vn190, vd192])) (cs := [(.bool (decide (qy.num < 0))), vn190, vd192]) (o := 0) ty42 rfl rfl rfl rfl (one_cons rfl (one_cons hn191.one (one_cons hd193.one one_nil))) hb186 (Nat.le_of_ble_eq_true rfl)) ?_ RS.nil
            rintro w206 ⟨hn207, hx208, hz209⟩
            refine ⟨.inr (.inl (by kernel_rfl)), ?_⟩
            replace hE := Below.exc hE hE.size hx208 ge_b184
            have nb_hx208 := (Nb.of hb186 (nu_cons rfl (nu_cons rfl (nu_cons rfl nu_nil))))
            replace hb186 : Bk w206 b184 42 [(.bool (decide (qy.num < 0))), vn190, vd192] := hn207
            refine RA.done (by kernel_rfl) ?_
            have hm210 := Ext.trans he69 (Ext.trans he185 (Ext.trans he189 he199))
            replace hx := ((hx.tr (Sm.ext hm210)).apn hx204 nb_hx204).apn hx208 nb_hx208
            replace hy := ((hy.tr (Sm.ext (Ext.trans he189 he199))).apn hx204 nb_hx204).apn hx208 nb_hx208
            replace hdx := ((hdx.tr (Sm.ext hm210)).apn hx204 nb_hx204).apn hx208 nb_hx208
            replace hdy := ((hdy.tr (Sm.ext (Ext.trans he189 he199))).apn hx204 nb_hx204).apn hx208 nb_hx208
            replace hb4 := ((hb4.ext hm210).exc hx204 (Nat.ne_of_lt (Nat.lt_trans lt_b2_b7 (Nat.lt_trans lt_b7_b12 (Nat.lt_trans lt_b12_b184 lt_b184_b198))))).exc hx208 (Nat.ne_of_lt (Nat.lt_trans lt_b2_b7 (Nat.lt_trans lt_b7_b12 lt_b12_b184)))
            replace hb9 := ((hb9.ext hm210).exc hx204 (Nat.ne_of_lt (Nat.lt_trans lt_b7_b12 (Nat.lt_trans lt_b12_b184 lt_b184_b198)))).exc hx208 (Nat.ne_of_lt (Nat.lt_trans lt_b7_b12 lt_b12_b184))
            have hm211 := Ext.trans he185 (Ext.trans he189 he199)
            replace hb14 := ((hb14.ext hm211).exc hx204 (Nat.ne_of_lt (Nat.lt_trans lt_b12_b184 lt_b184_b198))).exc hx208 (Nat.ne_of_lt lt_b12_b184)
            replace hn71 := ((hn71.tr (Sm.ext hm211)).apn hx204 nb_hx204).apn hx208 nb_hx208
            replace hd73 := ((hd73.tr (Sm.ext hm211)).apn hx204 nb_hx204).apn hx208 nb_hx208
            replace hn191 := ((hn191.tr (Sm.ext he199)).apn hx204 nb_hx204).apn hx208 nb_hx208
            replace hd193 := ((hd193.tr (Sm.ext he199)).apn hx204 nb_hx204).apn hx208 nb_hx208
            replace hb200 := hb200.exc hx208 (Nat.ne_of_gt lt_b184_b198)
            refine ⟨b198, b184, vn70, vd72, vn190, vd192, ?_, ?_, ?_, ?_, ?_, ?_, ?_, ?_, ?_, ?_, ?_, ?_, ?_, ?_, ?_, ?_, ?_, ?_, ?_, ?_, ?_, ?_⟩
            · exact (by repeat (first | exact hoff62 | refine Off.st ?_ (by decide) _))
            · exact rfl
            · exact rfl
            · exact ge_b198
            · exact (Nat.lt_trans lt_b12_b184 lt_b184_b198)
            · exact ge_b184
            · exact lt_b12_b184
            · exact (Nat.ne_of_gt lt_b184_b198)
            · exact hx
            · exact hy
            · exact hdx
            · exact hdy
            · exact hE
            · exact hb4
            · exact hb9
            · exact hb14
            · exact hn71
            · exact hd73
            · exact hn191
            · exact hd193
            · exact hb200
            · exact hb186
          · refine RS.run rfl rfl rfl (by decide) (h_alloc (cs := [(.bool false), (.slice none 0 0), (.slice none 0 0)]) ty42 rfl) ?_ RS.nil
            rintro _ w212 ⟨b213, rfl, hs216, hb215, he214⟩
            refine ⟨.inr (.inr he214), RA.more (S' := fun u => Ext _ u) (fun u hu => Ext.trans he214 hu) ?_⟩
            have lt_b184_b213 := Nat.lt_of_lt_of_eq hb186.lt hs216.symm
            have ge_b213 : w.heap.size ≤ b213 := by rw [hs216]; exact hE.size
            replace hE := Below.ext hE hE.size he214
            refine RA.all [3] (by kernel_rfl) rfl ?_
            replace hy := hy.tr (Sm.ext he214)
            replace hdy := hdy.tr (Sm.ext he214)
            refine RS.call rfl rfl rfl (by decide) (r_call (vl := [(.agg #[(.bool (sy)), vy, uy])]) ent38 rfl) (r03_norm hy (by assumption) (by first | omega | simp) hdy (by assumption) (by first | omega | simp) (show ratOf sy (val y) (val dy) = qy from ey)) ?_ RS.nil
            rintro _ w217 ⟨⟨vn219, vd221, rfl, hn220, hd222, hl223, hl224⟩, he218⟩
            refine ⟨.inr (.inr he218), RA.more (S' := fun u => Ext _ u) (fun u hu => Ext.trans he218 hu) ?_⟩
            have hlv225 := den_one qy
            replace hn220 := hn220.mono (D' := fun b T => w.heap.size ≤ b ∧ T = 52) (fun b T h => ⟨Nat.le_trans hE.size h.1, h.2⟩)
            replace hd222 := hd222.mono (D' := fun b T => w.heap.size ≤ b ∧ T = 52) (fun b T h => ⟨Nat.le_trans hE.size h.1, h.2⟩)
            replace hE := Below.ext hE hE.size he218
            refine RA.all [6] (by kernel_rfl) rfl ?_
            replace hb215 := hb215.ext he218
            refine RS.runs rfl rfl rfl (h_store (vv := (.agg #[(.bool (decide (qx.num < 0))), vn70, vd72])) (cs := [(.bool (decide (qx.num < 0))), vn70, vd72]) (o := 0) ty42 rfl rfl rfl rfl (one_cons rfl (one_cons hn71.one (one_cons hd73.one one_nil))) hb215 (Nat.le_of_ble_eq_true rfl)) ?_ RS.nil
            rintro w226 ⟨hn227, hx228, hz229⟩
            refine ⟨.inr (.inl (by kernel_rfl)), ?_⟩
            replace hE := Below.exc hE hE.size hx228 ge_b213
            have nb_hx228 := (Nb.of hb215 (nu_cons rfl (nu_cons rfl (nu_cons rfl nu_nil))))
            replace hb215 : Bk w226 b213 42 [(.bool (decide (qx.num < 0))), vn70, vd72] := hn227
            refine RA.all [7] (by kernel_rfl) rfl ?_
            replace hb186 := (hb186.ext (Ext.trans he214 he218)).exc hx228 (Nat.ne_of_lt lt_b184_b213)
            refine RS.runs rfl rfl rfl (h_store (vv := (.agg #[(.bool (decide (qy.num < 0))), vn219, vd221])) (cs := [(.bool (decide (qy.num < 0))), vn219, vd221]) (o := 0) ty42 rfl rfl rfl rfl (one_cons rfl (one_cons hn220.one (one_cons hd222.one one_nil))) hb186 (Nat.le_of_ble_eq_true rfl)) ?_ RS.nil
            rintro w230 ⟨hn231, hx232, hz233⟩
            refine ⟨.inr (.inl (by kernel_rfl)), ?_⟩
            replace hE := Below.exc hE hE.size hx232 ge_b184
            have nb_hx232 := (Nb.of hb186 (nu_cons rfl (nu_cons rfl (nu_cons rfl nu_nil))))
            replace hb186 : Bk w230 b184 42 [(.bool (decide (qy.num < 0))), vn219, vd221] := hn231
            refine RA.done (by kernel_rfl) ?_
            have hm234 := Ext.trans he69 (Ext.trans he185 (Ext.trans he214 he218))
            replace hx := ((hx.tr (Sm.ext hm234)).apn hx228 nb_hx228).apn hx232 nb_hx232
            replace hy := ((hy.tr (Sm.ext he218)).apn hx228 nb_hx228).apn hx232 nb_hx232
            replace hdx := ((hdx.tr (Sm.ext hm234)).apn hx228 nb_hx228).apn hx232 nb_hx232
            replace hdy := ((hdy.tr (Sm.ext he218)).apn hx228 nb_hx228).apn hx232 nb_hx232
            replace hb4 := ((hb4.ext hm234).exc hx228 (Nat.ne_of_lt (Nat.lt_trans lt_b2_b7 (Nat.lt_trans lt_b7_b12 (Nat.lt_trans lt_b12_b184 lt_b184_b213))))).exc hx232 (Nat.ne_of_lt (Nat.lt_trans lt_b2_b7 (Nat.lt_trans lt_b7_b12 lt_b12_b184)))
            replace hb9 := ((hb9.ext hm234).exc hx228 (Nat.ne_of_lt (Nat.lt_trans lt_b7_b12 (Nat.lt_trans lt_b12_b184 lt_b184_b213)))).exc hx232 (Nat.ne_of_lt (Nat.lt_trans lt_b7_b12 lt_b12_b184))
            have hm235 := Ext.trans he185 (Ext.trans he214 he218)
            replace hb14 := ((hb14.ext hm235).exc hx228 (Nat.ne_of_lt (Nat.lt_trans lt_b12_b184 lt_b184_b213))).exc hx232 (Nat.ne_of_lt lt_b12_b184)
            replace hn71 := ((hn71.tr (Sm.ext hm235)).apn hx228 nb_hx228).apn hx232 nb_hx232
            replace hd73 := ((hd73.tr (Sm.ext hm235)).apn hx228 nb_hx228).apn hx232 nb_hx232
            replace hn220 := (hn220.apn hx228 nb_hx228).apn hx232 nb_hx232
            replace hd222 := (hd222.apn hx228 nb_hx228).apn hx232 nb_hx232
            replace hb215 := hb215.exc hx232 (Nat.ne_of_gt lt_b184_b213)
            refine ⟨b213, b184, vn70, vd72, vn219, vd221, ?_, ?_, ?_, ?_, ?_, ?_, ?_, ?_, ?_, ?_, ?_, ?_, ?_, ?_, ?_, ?_, ?_, ?_, ?_, ?_, ?_, ?_⟩
            · exact (by repeat (first | exact hoff62 | refine Off.st ?_ (by decide) _))
            · exact rfl
            · exact rfl
            · exact ge_b213
            · exact (Nat.lt_trans lt_b12_b184 lt_b184_b213)
            · exact ge_b184
            · exact lt_b12_b184
            · exact (Nat.ne_of_gt lt_b184_b213)
            · exact hx
            · exact hy
            · exact hdx
            · exact hdy
            · exact hE
            · exact hb4
            · exact hb9
            · exact hb14
            · exact hn71
            · exact hd73
            · exact hn220
            · exact hd222
            · exact hb215
            · exact hb186
    · refine RS.run rfl rfl rfl (by decide) (h_alloc (cs := [(.bool false), (.slice none 0 0), (.slice none 0 0)]) ty42 rfl) ?_ ?_
      · rintro _ w236 ⟨b237, rfl, hs240, hb239, he238⟩
        refine ⟨.inr (.inr he238), RA.more (S' := fun u => Ext _ u) (fun u hu => Ext.trans he238 hu) ?_⟩
        replace hb14 := hb14.ext he64
        have lt_b12_b237 := Nat.lt_of_lt_of_eq hb14.lt hs240.symm
        have ge_b237 : w.heap.size ≤ b237 := by rw [hs240]; exact hE.size
        replace hE := Below.ext hE hE.size he238
        refine RA.all [1, 5] (by kernel_rfl) rfl ?_
        replace hx := hx.tr (Sm.ext he238)
        replace hdx := hdx.tr (Sm.ext he238)
        refine RS.call rfl rfl rfl (by decide) (r_call (vl := [(.agg #[(.bool (sx)), vx, ux])]) ent38 rfl) (r03_norm hx (by assumption) (by first | omega | simp) hdx (by assumption) (by first | omega | simp) (show ratOf sx (val x) (val dx) = qx from ex)) ?_ ?_
        · rintro _ w241 ⟨⟨vn243, vd245, rfl, hn244, hd246, hl247, hl248⟩, he242⟩
          refine ⟨.inr (.inr he242), RA.more (S' := fun u => Ext _ u) (fun u hu => Ext.trans he242 hu) ?_⟩
          have hlv249 := den_one qx
          replace hn244 := hn244.mono (D' := fun b T => w.heap.size ≤ b ∧ T = 52) (fun b T h => ⟨Nat.le_trans hE.size h.1, h.2⟩)
          replace hd246 := hd246.mono (D' := fun b T => w.heap.size ≤ b ∧ T = 52) (fun b T h => ⟨Nat.le_trans hE.size h.1, h.2⟩)
          replace hE := Below.ext hE hE.size he242
          refine RA.all [3, 5] (by kernel_rfl) rfl ?_
          have hm258 := Ext.trans he3 (Ext.trans he8 (Ext.trans he13 (Ext.trans he64 (Ext.trans he238 he242))))
          replace hy := hy.tr (Sm.ext hm258)
          replace hdy := hdy.tr (Sm.ext hm258)
          refine RS.call rfl rfl rfl (by decide) (r_call (vl := [(.agg #[(.bool (sy)), vy, uy])]) ent38 rfl) (r03_norm hy (by assumption) (by first | omega | simp) hdy (by assumption) (by first | omega | simp) (show ratOf sy (val y) (val dy) = qy from ey)) ?_ ?_
          · rintro _ w250 ⟨⟨vn252, vd254, rfl, hn253, hd255, hl256, hl257⟩, he251⟩
            refine ⟨.inr (.inr he251), RA.more (S' := fun u => Ext _ u) (fun u hu => Ext.trans he251 hu) ?_⟩
            have hlv259 := den_one qy
            replace hn253 := hn253.mono (D' := fun b T => w.heap.size ≤ b ∧ T = 52) (fun b T h => ⟨Nat.le_trans hE.size h.1, h.2⟩)
            replace hd255 := hd255.mono (D' := fun b T => w.heap.size ≤ b ∧ T = 52) (fun b T h => ⟨Nat.le_trans hE.size h.1, h.2⟩)
            replace hE := Below.ext hE hE.size he251
            refine RA.all [5] (by kernel_rfl) rfl ?_
            refine RS.run rfl rfl rfl (by decide) (h_alloc (cs := [(.bool false), (.slice none 0 0), (.slice none 0 0)]) ty42 rfl) ?_ RS.nil
            rintro _ w260 ⟨b261, rfl, hs264, hb263, he262⟩
            refine ⟨.inr (.inr he262), RA.more (S' := fun u => Ext _ u) (fun u hu => Ext.trans he262 hu) ?_⟩
            replace hb239 := hb239.ext (Ext.trans he242 he251)
            have lt_b237_b261 := Nat.lt_of_lt_of_eq hb239.lt hs264.symm
            have ge_b261 : w.heap.size ≤ b261 := by rw [hs264]; exact hE.size
            replace hE := Below.ext hE hE.size he262
            refine RA.all [6] (by kernel_rfl) rfl ?_
            replace hb239 := hb239.ext he262
            refine RS.runs rfl rfl rfl (h_store (vv := (.agg #[(.bool (decide (qx.num < 0))), vn243, vd245])) (cs := [(.bool (decide (qx.num < 0))), vn243, vd245]) (o := 0) ty42 rfl rfl rfl rfl (one_cons rfl (one_cons hn244.one (one_cons hd246.one one_nil))) hb239 (Nat.le_of_ble_eq_true rfl)) ?_ RS.nil
            rintro w265 ⟨hn266, hx267, hz268⟩
            refine ⟨.inr (.inl (by kernel_rfl)), ?_⟩
            replace hE := Below.exc hE hE.size hx267 ge_b237
            have nb_hx267 := (Nb.of hb239 (nu_cons rfl (nu_cons rfl (nu_cons rfl nu_nil))))
            replace hb239 : Bk w265 b237 42 [(.bool (decide (qx.num < 0))), vn243, vd245] := hn266
            refine RA.all [7] (by kernel_rfl) rfl ?_
            replace hb263 := hb263.exc hx267 (Nat.ne_of_gt lt_b237_b261)
            refine RS.runs rfl rfl rfl (h_store (vv := (.agg #[(.bool (decide (qy.num < 0))), vn252, vd254])) (cs := [(.bool (decide (qy.num < 0))), vn252, vd254]) (o := 0) ty42 rfl rfl rfl rfl (one_cons rfl (one_cons hn253.one (one_cons hd255.one one_nil))) hb263 (Nat.le_of_ble_eq_true rfl)) ?_ RS.nil
            rintro w269 ⟨hn270, hx271, hz272⟩
            refine ⟨.inr (.inl (by kernel_rfl)), ?_⟩
            replace hE := Below.exc hE hE.size hx271 ge_b261
            have nb_hx271 := (Nb.of hb263 (nu_cons rfl (nu_cons rfl (nu_cons rfl nu_nil))))
            replace hb263 : Bk w269 b261 42 [(.bool (decide (qy.num < 0))), vn252, vd254] := hn270
            refine RA.done (by kernel_rfl) ?_
            have hm273 := Ext.trans he242 (Ext.trans he251 he262)
            replace hx := ((hx.tr (Sm.ext hm273)).apn hx267 nb_hx267).apn hx271 nb_hx271
            replace hy := ((hy.tr (Sm.ext (Ext.trans he251 he262))).apn hx267 nb_hx267).apn hx271 nb_hx271
            replace hdx := ((hdx.tr (Sm.ext hm273)).apn hx267 nb_hx267).apn hx271 nb_hx271
            replace hdy := ((hdy.tr (Sm.ext (Ext.trans he251 he262))).apn hx267 nb_hx267).apn hx271 nb_hx271
            have hm274 := Ext.trans he238 (Ext.trans he242 (Ext.trans he251 he262))
            replace hb4 := ((hb4.ext hm274).exc hx267 (Nat.ne_of_lt (Nat.lt_trans lt_b2_b7 (Nat.lt_trans lt_b7_b12 lt_b12_b237)))).exc hx271 (Nat.ne_of_lt (Nat.lt_trans lt_b2_b7 (Nat.lt_trans lt_b7_b12 (Nat.lt_trans lt_b12_b237 lt_b237_b261))))
            replace hb9 := ((hb9.ext hm274).exc hx267 (Nat.ne_of_lt (Nat.lt_trans lt_b7_b12 lt_b12_b237))).exc hx271 (Nat.ne_of_lt (Nat.lt_trans lt_b7_b12 (Nat.lt_trans lt_b12_b237 lt_b237_b261)))
            replace hb14 := ((hb14.ext hm274).exc hx267 (Nat.ne_of_lt lt_b12_b237)).exc hx271 (Nat.ne_of_lt (Nat.lt_trans lt_b12_b237 lt_b237_b261))
            replace hn244 := ((hn244.tr (Sm.ext (Ext.trans he251 he262))).apn hx267 nb_hx267).apn hx271 nb_hx271
            replace hd246 := ((hd246.tr (Sm.ext (Ext.trans he251 he262))).apn hx267 nb_hx267).apn hx271 nb_hx271
            replace hn253 := ((hn253.tr (Sm.ext he262)).apn hx267 nb_hx267).apn hx271 nb_hx271
            replace hd255 := ((hd255.tr (Sm.ext he262)).apn hx267 nb_hx267).apn hx271 nb_hx271
            replace hb239 := hb239.exc hx271 (Nat.ne_of_lt lt_b237_b261)
            refine ⟨b237, b261, vn243, vd245, vn252, vd254, ?_, ?_, ?_, ?_, ?_, ?_, ?_, ?_, ?_, ?_, ?_, ?_, ?_, ?_, ?_, ?_, ?_, ?_, ?_, ?_, ?_, ?_⟩
            · exact (by repeat (first | exact hoff62 | refine Off.st ?_ (by decide) _))
            · exact rfl
            · exact rfl
            · exact ge_b237
            · exact lt_b12_b237
            · exact ge_b261
            · exact (Nat.lt_trans lt_b12_b237 lt_b237_b261)
            · exact (Nat.ne_of_lt lt_b237_b261)
            · exact hx
            · exact hy
            · exact hdx
            · exact hdy
            · exact hE
            · exact hb4
            · exact hb9
            · exact hb14
            · exact hn244
            · exact hd246
            · exact hn253
            · exact hd255
            · exact hb239
            · exact hb263
          · refine RS.run rfl rfl rfl (by decide) (h_alloc (cs := [(.bool false), (.slice none 0 0), (.slice none 0 0)]) ty42 rfl) ?_ RS.nil
            rintro _ w275 ⟨b276, rfl, hs279, hb278, he277⟩
            refine ⟨.inr (.inr he277), RA.more (S' := fun u => Ext _ u) (fun u hu => Ext.trans he277 hu) ?_⟩
            replace hb239 := hb239.ext he242
            have lt_b237_b276 := Nat.lt_of_lt_of_eq hb239.lt hs279.symm
            have ge_b276 : w.heap.size ≤ b276 := by rw [hs279]; exact hE.size
            replace hE := Below.ext hE hE.size he277
            refine RA.all [3] (by kernel_rfl) rfl ?_
            replace hy := hy.tr (Sm.ext he277)
            replace hdy := hdy.tr (Sm.ext he277)
            refine RS.call rfl rfl rfl (by decide) (r_call (vl := [(.agg #[(.bool (sy)), vy, uy])]) ent38 rfl) (r03_norm hy (by assumption) (by first | omega | simp) hdy (by assumption) (by first | omega | simp) (show ratOf sy (val y) (val dy) = qy from ey)) ?_ RS.nil
            rintro _ w280 ⟨⟨vn282, vd284, rfl, hn283, hd285, hl286, hl287⟩, he281⟩
            refine ⟨.inr (.inr he281), RA.more (S' := fun u => Ext _ u) (fun u hu => Ext.trans he281 hu) ?_⟩
            have hlv288 := den_one qy
            replace hn283 := hn283.mono (D' := fun b T => w.heap.size ≤ b ∧ T = 52) (fun b T h => ⟨Nat.le_trans hE.size h.1, h.2⟩)
            replace hd285 := hd285.mono (D' := fun b T => w.heap.size ≤ b ∧ T = 52) (fun b T h => ⟨Nat.le_trans hE.size h.1, h.2⟩)
            replace hE := Below.ext hE hE.size he281
            refine RA.all [6] (by kernel_rfl) rfl ?_
            replace hb239 := hb239.ext (Ext.trans he277 he281)
            refine RS.runs rfl rfl rfl (h_store (vv := (.agg #[(.bool (decide (qx.num < 0))), vn243, vd245])) (cs := [(.bool (decide (qx.num < 0))), vn243, vd245]) (o := 0) ty42 rfl rfl rfl rfl (one_cons rfl (one_cons hn244.one (one_cons hd246.one one_nil))) hb239 (Nat.le_of_ble_eq_true rfl)) ?_ RS.nil
            rintro w289 ⟨hn290, hx291, hz292⟩
            refine ⟨.inr (.inl (by kernel_rfl)), ?_⟩
            replace hE := Below.exc hE hE.size hx291 ge_b237
            have nb_hx291 := (Nb.of hb239 (nu_cons rfl (nu_cons rfl (nu_cons rfl nu_nil))))
            replace hb239 : Bk w289 b237 42 [(.bool (decide (qx.num < 0))), vn243, vd245] := hn290
            refine RA.all [7] (by kernel_rfl) rfl ?_
            replace hb278 := (hb278.ext he281).exc hx291 (Nat.ne_of_gt lt_b237_b276)
            refine RS.runs rfl rfl rfl (h_store (vv := (.agg #[(.bool (decide (qy.num < 0))), vn282, vd284])) (cs := [(.bool (decide (qy.num < 0))), vn282, vd284]) (o := 0) ty42 rfl rfl rfl rfl (one_cons rfl (one_cons hn283.one (one_cons hd285.one one_nil))) hb278 (Nat.le_of_ble_eq_true rfl)) ?_ RS.nil
            rintro w293 ⟨hn294, hx295, hz296⟩
            refine ⟨.inr (.inl (by kernel_rfl)), ?_⟩
            replace hE := Below.exc hE hE.size hx295 ge_b276
            have nb_hx295 := (Nb.of hb278 (nu_cons rfl (nu_cons rfl (nu_cons rfl nu_nil))))
            replace hb278 : Bk w293 b276 42 [(.bool (decide (qy.num < 0))), vn282, vd284] := hn294
            refine RA.done (by kernel_rfl) ?_
            have hm297 := Ext.trans he242 (Ext.trans he277 he281)
            replace hx := ((hx.tr (Sm.ext hm297)).apn hx291 nb_hx291).apn hx295 nb_hx295
            replace hy := ((hy.tr (Sm.ext he281)).apn hx291 nb_hx291).apn hx295 nb_hx295
            replace hdx := ((hdx.tr (Sm.ext hm297)).apn hx291 nb_hx291).apn hx295 nb_hx295
            replace hdy := ((hdy.tr (Sm.ext he281)).apn hx291 nb_hx291).apn hx295 nb_hx295
            have hm298 := Ext.trans he238 (Ext.trans he242 (Ext.trans he277 he281))
            replace hb4 := ((hb4.ext hm298).exc hx291 (Nat.ne_of_lt (Nat.lt_trans lt_b2_b7 (Nat.lt_trans lt_b7_b12 lt_b12_b237)))).exc hx295 (Nat.ne_of_lt (Nat.lt_trans lt_b2_b7 (Nat.lt_trans lt_b7_b12 (Nat.lt_trans lt_b12_b237 lt_b237_b276))))
            replace hb9 := ((hb9.ext hm298).exc hx291 (Nat.ne_of_lt (Nat.lt_trans lt_b7_b12 lt_b12_b237))).exc hx295 (Nat.ne_of_lt (Nat.lt_trans lt_b7_b12 (Nat.lt_trans lt_b12_b237 lt_b237_b276)))
            replace hb14 := ((hb14.ext hm298).exc hx291 (Nat.ne_of_lt lt_b12_b237)).exc hx295 (Nat.ne_of_lt (Nat.lt_trans lt_b12_b237 lt_b237_b276))
            replace hn244 := ((hn244.tr (Sm.ext (Ext.trans he277 he281))).apn hx291 nb_hx291).apn hx295 nb_hx295
            replace hd246 := ((hd246.tr (Sm.ext (Ext.trans he277 he281))).apn hx291 nb_hx291).apn hx295 nb_hx295
            replace hn283 := (hn283.apn hx291 nb_hx291).apn hx295 nb_hx295
            replace hd285 := (hd285.apn hx291 nb_hx291).apn hx295 nb_hx295
            replace hb239 := hb239.exc hx295 (Nat.ne_of_lt lt_b237_b276)
            refine ⟨b237, b276, vn243, vd245, vn282, vd284, ?_, ?_, ?_, ?_, ?_, ?_, ?_, ?_, ?_, ?_, ?_, ?_, ?_, ?_, ?_, ?_, ?_, ?_, ?_, ?_, ?_, ?_⟩
            · exact (by repeat (first | exact hoff62 | refine Off.st ?_ (by decide) _))
            · exact rfl
            · exact rfl
            · exact ge_b237
            · exact lt_b12_b237
            · exact ge_b276
            · exact (Nat.lt_trans lt_b12_b237 lt_b237_b276)
            · exact (Nat.ne_of_lt lt_b237_b276)
            · exact hx
            · exact hy
            · exact hdx
            · exact hdy
            · exact hE
            · exact hb4
            · exact hb9
            · exact hb14
            · exact hn244
            · exact hd246
            · exact hn283
            · exact hd285
            · exact hb239
            · exact hb278
        · refine RS.run rfl rfl rfl (by decide) (h_alloc (cs := [(.bool false), (.slice none 0 0), (.slice none 0 0)]) ty42 rfl) ?_ RS.nil
          rintro _ w299 ⟨b300, rfl, hs303, hb302, he301⟩
          refine ⟨.inr (.inr he301), RA.more (S' := fun u => Ext _ u) (fun u hu => Ext.trans he301 hu) ?_⟩
          have lt_b237_b300 := Nat.lt_of_lt_of_eq hb239.lt hs303.symm
          have ge_b300 : w.heap.size ≤ b300 := by rw [hs303]; exact hE.size
          replace hE := Below.ext hE hE.size he301
          refine RA.all [1] (by kernel_rfl) rfl ?_
          replace hx := hx.tr (Sm.ext he301)
          replace hdx := hdx.tr (Sm.ext he301)
          refine RS.call rfl rfl rfl (by decide) (r_call (vl := [(.agg #[(.bool (sx)), vx, ux])]) ent38 rfl) (r03_norm hx (by assumption) (by first | omega | simp) hdx (by assumption) (by first | omega | simp) (show ratOf sx (val x) (val dx) = qx from ex)) ?_ RS.nil
          rintro _ w304 ⟨⟨vn306, vd308, rfl, hn307, hd309, hl310, hl311⟩, he305⟩
          refine ⟨.inr (.inr he305), RA.more (S' := fun u => Ext _ u) (fun u hu => Ext.trans he305 hu) ?_⟩
          have hlv312 := den_one qx
          replace hn307 := hn307.mono (D' := fun b T => w.heap.size ≤ b ∧ T = 52) (fun b T h => ⟨Nat.le_trans hE.size h.1, h.2⟩)
          replace hd309 := hd309.mono (D' := fun b T => w.heap.size ≤ b ∧ T = 52) (fun b T h => ⟨Nat.le_trans hE.size h.1, h.2⟩)
          replace hE := Below.ext hE hE.size he305
          refine RA.all [3] (by kernel_rfl) rfl ?_
          have hm321 := Ext.trans he3 (Ext.trans he8 (Ext.trans he13 (Ext.trans he64 (Ext.trans he238 (Ext.trans he301 he305)))))
          replace hy := hy.tr (Sm.ext hm321)
          replace hdy := hdy.tr (Sm.ext hm321)
          refine RS.call rfl rfl rfl (by decide) (r_call (vl := [(.agg #[(.bool (sy)), vy, uy])]) ent38 rfl) (r03_norm hy (by assumption) (by first | omega | simp) hdy (by assumption) (by first | omega | simp) (show ratOf sy (val y) (val dy) = qy from ey)) ?_ RS.nil
          rintro _ w313 ⟨⟨vn315, vd317, rfl, hn316, hd318, hl319, hl320⟩, he314⟩
          refine ⟨.inr (.inr he314), RA.more (S' := fun u => Ext _ u) (fun u hu => Ext.trans he314 hu) ?_⟩
          have hlv322 := den_one qy
          replace hn316 := hn316.mono (D' := fun b T => w.heap.size ≤ b ∧ T = 52) (fun b T h => ⟨Nat.le_trans hE.size h.1, h.2⟩)
          replace hd318 := hd318.mono (D' := fun b T => w.heap.size ≤ b ∧ T = 52) (fun b T h => ⟨Nat.le_trans hE.size h.1, h.2⟩)
          replace hE := Below.ext hE hE.size he314
          refine RA.all [6] (by kernel_rfl) rfl ?_
          have hm327 := Ext.trans he301 (Ext.trans he305 he314)
          replace hb239 := hb239.ext hm327
          refine RS.runs rfl rfl rfl (h_store (vv := (.agg #[(.bool (decide (qx.num < 0))), vn306, vd308])) (cs := [(.bool (decide (qx.num < 0))), vn306, vd308]) (o := 0) ty42 rfl rfl rfl rfl (one_cons rfl (one_cons hn307.one (one_cons hd309.one one_nil))) hb239 (Nat.le_of_ble_eq_true rfl)) ?_ RS.nil
          rintro w323 ⟨hn324, hx325, hz326⟩
          refine ⟨.inr (.inl (by kernel_rfl)), ?_⟩
          replace hE := Below.exc hE hE.size hx325 ge_b237
          have nb_hx325 := (Nb.of hb239 (nu_cons rfl (nu_cons rfl (nu_cons rfl nu_nil))))
          replace hb239 : Bk w323 b237 42 [(.bool (decide (qx.num < 0))), vn306, vd308] := hn324
          refine RA.all [7] (by kernel_rfl) rfl ?_
          replace hb302 := (hb302.ext (Ext.trans he305 he314)).exc hx325 (Nat.ne_of_gt lt_b237_b300)
          refine RS.runs rfl rfl rfl (h_store (vv := (.agg #[(.bool (decide (qy.num < 0))), vn315, vd317])) (cs := [(.bool (decide (qy.num < 0))), vn315, vd317]) (o := 0) ty42 rfl rfl rfl rfl (one_cons rfl (one_cons hn316.one (one_cons hd318.one one_nil))) hb302 (Nat.le_of_ble_eq_true rfl)) ?_ RS.nil
          rintro w328 ⟨hn329, hx330, hz331⟩
          refine ⟨.inr (.inl (by kernel_rfl)), ?_⟩
          replace hE := Below.exc hE hE.size hx330 ge_b300
          have nb_hx330 := (Nb.of hb302 (nu_cons rfl (nu_cons rfl (nu_cons rfl nu_nil))))
          replace hb302 : Bk w328 b300 42 [(.bool (decide (qy.num < 0))), vn315, vd317] := hn329
          refine RA.done (by kernel_rfl) ?_
          replace hx := ((hx.tr (Sm.ext (Ext.trans he305 he314))).apn hx325 nb_hx325).apn hx330 nb_hx330
          replace hy := ((hy.tr (Sm.ext he314)).apn hx325 nb_hx325).apn hx330 nb_hx330
          replace hdx := ((hdx.tr (Sm.ext (Ext.trans he305 he314))).apn hx325 nb_hx325).apn hx330 nb_hx330
          replace hdy := ((hdy.tr (Sm.ext he314)).apn hx325 nb_hx325).apn hx330 nb_hx330
          have hm332 := Ext.trans he238 (Ext.trans he301 (Ext.trans he305 he314))
          replace hb4 := ((hb4.ext hm332).exc hx325 (Nat.ne_of_lt (Nat.lt_trans lt_b2_b7 (Nat.lt_trans lt_b7_b12 lt_b12_b237)))).exc hx330 (Nat.ne_of_lt (Nat.lt_trans lt_b2_b7 (Nat.lt_trans lt_b7_b12 (Nat.lt_trans lt_b12_b237 lt_b237_b300))))
          replace hb9 := ((hb9.ext hm332).exc hx325 (Nat.ne_of_lt (Nat.lt_trans lt_b7_b12 lt_b12_b237))).exc hx330 (Nat.ne_of_lt (Nat.lt_trans lt_b7_b12 (Nat.lt_trans lt_b12_b237 lt_b237_b300)))
          replace hb14 := ((hb14.ext hm332).exc hx325 (Nat.ne_of_lt lt_b12_b237)).exc hx330 (Nat.ne_of_lt (Nat.lt_trans lt_b12_b237 lt_b237_b300))
          replace hn307 := ((hn307.tr (Sm.ext he314)).apn hx325 nb_hx325).apn hx330 nb_hx330
          replace hd309 := ((hd309.tr (Sm.ext he314)).apn hx325 nb_hx325).apn hx330 nb_hx330
          replace hn316 := (hn316.apn hx325 nb_hx325).apn hx330 nb_hx330
          replace hd318 := (hd318.apn hx325 nb_hx325).apn hx330 nb_hx330
          replace hb239 := hb239.exc hx330 (Nat.ne_of_lt lt_b237_b300)
          refine ⟨b237, b300, vn306, vd308, vn315, vd317, ?_, ?_, ?_, ?_, ?_, ?_, ?_, ?_, ?_, ?_, ?_, ?_, ?_, ?_, ?_, ?_, ?_, ?_, ?_, ?_, ?_, ?_⟩
          · exact (by repeat (first | exact hoff62 | refine Off.st ?_ (by decide) _))
          · exact rfl
          · exact rfl
          · exact ge_b237
          · exact lt_b12_b237
          · exact ge_b300
          · exact (Nat.lt_trans lt_b12_b237 lt_b237_b300)
          · exact (Nat.ne_of_lt lt_b237_b300)
          · exact hx
          · exact hy
          · exact hdx
          · exact hdy
          · exact hE
          · exact hb4
          · exact hb9
          · exact hb14
          · exact hn307
          · exact hd309
          · exact hn316
          · exact hd318
          · exact hb239
          · exact hb302
      · refine RS.run rfl rfl rfl (by decide) (h_alloc (cs := [(.bool false), (.slice none 0 0), (.slice none 0 0)]) ty42 rfl) ?_ RS.nil
        rintro _ w333 ⟨b334, rfl, hs337, hb336, he335⟩
        refine ⟨.inr (.inr he335), RA.more (S' := fun u => Ext _ u) (fun u hu => Ext.trans he335 hu) ?_⟩
        replace hb14 := hb14.ext he64
        have lt_b12_b334 := Nat.lt_of_lt_of_eq hb14.lt hs337.symm
        have ge_b334 : w.heap.size ≤ b334 := by rw [hs337]; exact hE.size
        replace hE := Below.ext hE hE.size he335
        refine RA.all [1, 4] (by kernel_rfl) rfl ?_
        replace hx := hx.tr (Sm.ext he335)
        replace hdx := hdx.tr (Sm.ext he335)
        refine RS.call rfl rfl rfl (by decide) (r_call (vl := [(.agg #[(.bool (sx)), vx, ux])]) ent38 rfl) (r03_norm hx (by assumption) (by first | omega | simp) hdx (by assumption) (by first | omega | simp) (show ratOf sx (val x) (val dx) = qx from ex)) ?_ ?_
        · rintro _ w338 ⟨⟨vn340, vd342, rfl, hn341, hd343, hl344, hl345⟩, he339⟩
          refine ⟨.inr (.inr he339), RA.more (S' := fun u => Ext _ u) (fun u hu => Ext.trans he339 hu) ?_⟩
          have hlv346 := den_one qx
          replace hn341 := hn341.mono (D' := fun b T => w.heap.size ≤ b ∧ T = 52) (fun b T h => ⟨Nat.le_trans hE.size h.1, h.2⟩)
          replace hd343 := hd343.mono (D' := fun b T => w.heap.size ≤ b ∧ T = 52) (fun b T h => ⟨Nat.le_trans hE.size h.1, h.2⟩)
          replace hE := Below.ext hE hE.size he339
          refine RA.all [3, 4] (by kernel_rfl) rfl ?_
          have hm355 := Ext.trans he3 (Ext.trans he8 (Ext.trans he13 (Ext.trans he64 (Ext.trans he335 he339))))
          replace hy := hy.tr (Sm.ext hm355)
          replace hdy := hdy.tr (Sm.ext hm355)
          refine RS.call rfl rfl rfl (by decide) (r_call (vl := [(.agg #[(.bool (sy)), vy, uy])]) ent38 rfl) (r03_norm hy (by assumption) (by first | omega | simp) hdy (by assumption) (by first | omega | simp) (show ratOf sy (val y) (val dy) = qy from ey)) ?_ ?_
          · rintro _ w347 ⟨⟨vn349, vd351, rfl, hn350, hd352, hl353, hl354⟩, he348⟩
            refine ⟨.inr (.inr he348), RA.more (S' := fun u => Ext _ u) (fun u hu => Ext.trans he348 hu) ?_⟩
            have hlv356 := den_one qy
            replace hn350 := hn350.mono (D' := fun b T => w.heap.size ≤ b ∧ T = 52) (fun b T h => ⟨Nat.le_trans hE.size h.1, h.2⟩)
            replace hd352 := hd352.mono (D' := fun b T => w.heap.size ≤ b ∧ T = 52) (fun b T h => ⟨Nat.le_trans hE.size h.1, h.2⟩)
            replace hE := Below.ext hE hE.size he348
            refine RA.all [4] (by kernel_rfl) rfl ?_
            refine RS.run rfl rfl rfl (by decide) (h_alloc (cs := [(.bool false), (.slice none 0 0), (.slice none 0 0)]) ty42 rfl) ?_ RS.nil
            rintro _ w357 ⟨b358, rfl, hs361, hb360, he359⟩
            refine ⟨.inr (.inr he359), RA.more (S' := fun u => Ext _ u) (fun u hu => Ext.trans he359 hu) ?_⟩
            replace hb336 := hb336.ext (Ext.trans he339 he348)
            have lt_b334_b358 := Nat.lt_of_lt_of_eq hb336.lt hs361.symm
            have ge_b358 : w.heap.size ≤ b358 := by rw [hs361]; exact hE.size
            replace hE := Below.ext hE hE.size he359
            refine RA.all [6] (by kernel_rfl) rfl ?_
            refine RS.runs rfl rfl rfl (h_store (vv := (.agg #[(.bool (decide (qx.num < 0))), vn340, vd342])) (cs := [(.bool (decide (qx.num < 0))), vn340, vd342]) (o := 0) ty42 rfl rfl rfl rfl (one_cons rfl (one_cons hn341.one (one_cons hd343.one one_nil))) hb360 (Nat.le_of_ble_eq_true rfl)) ?_ RS.nil
            rintro w362 ⟨hn363, hx364, hz365⟩
            refine ⟨.inr (.inl (by kernel_rfl)), ?_⟩
            replace hE := Below.exc hE hE.size hx364 ge_b358
            have nb_hx364 := (Nb.of hb360 (nu_cons rfl (nu_cons rfl (nu_cons rfl nu_nil))))
            replace hb360 : Bk w362 b358 42 [(.bool (decide (qx.num < 0))), vn340, vd342] := hn363
            refine RA.all [7] (by kernel_rfl) rfl ?_
            replace hb336 := (hb336.ext he359).exc hx364 (Nat.ne_of_lt lt_b334_b358)
            refine RS.runs rfl rfl rfl (h_store (vv := (.agg #[(.bool (decide (qy.num < 0))), vn349, vd351])) (cs := [(.bool (decide (qy.num < 0))), vn349, vd351]) (o := 0) ty42 rfl rfl rfl rfl (one_cons rfl (one_cons hn350.one (one_cons hd352.one one_nil))) hb336 (Nat.le_of_ble_eq_true rfl)) ?_ RS.nil
            rintro w366 ⟨hn367, hx368, hz369⟩
            refine ⟨.inr (.inl (by kernel_rfl)), ?_⟩
            replace hE := Below.exc hE hE.size hx368 ge_b334
            have nb_hx368 := (Nb.of hb336 (nu_cons rfl (nu_cons rfl (nu_cons rfl nu_nil))))
            replace hb336 : Bk w366 b334 42 [(.bool (decide (qy.num < 0))), vn349, vd351] := hn367
            refine RA.done (by kernel_rfl) ?_
            have hm370 := Ext.trans he339 (Ext.trans he348 he359)
            replace hx := ((hx.tr (Sm.ext hm370)).apn hx364 nb_hx364).apn hx368 nb_hx368
            replace hy := ((hy.tr (Sm.ext (Ext.trans he348 he359))).apn hx364 nb_hx364).apn hx368 nb_hx368
            replace hdx := ((hdx.tr (Sm.ext hm370)).apn hx364 nb_hx364).apn hx368 nb_hx368
            replace hdy := ((hdy.tr (Sm.ext (Ext.trans he348 he359))).apn hx364 nb_hx364).apn hx368 nb_hx368
            have hm371 := Ext.trans he335 (Ext.trans he339 (Ext.trans he348 he359))
            replace hb4 := ((hb4.ext hm371).exc hx364 (Nat.ne_of_lt (Nat.lt_trans lt_b2_b7 (Nat.lt_trans lt_b7_b12 (Nat.lt_trans lt_b12_b334 lt_b334_b358))))).exc hx368 (Nat.ne_of_lt (Nat.lt_trans lt_b2_b7 (Nat.lt_trans lt_b7_b12 lt_b12_b334)))
            replace hb9 := ((hb9.ext hm371).exc hx364 (Nat.ne_of_lt (Nat.lt_trans lt_b7_b12 (Nat.lt_trans lt_b12_b334 lt_b334_b358)))).exc hx368 (Nat.ne_of_lt (Nat.lt_trans lt_b7_b12 lt_b12_b334))
            replace hb14 := ((hb14.ext hm371).exc hx364 (Nat.ne_of_lt (Nat.lt_trans lt_b12_b334 lt_b334_b358))).exc hx368 (Nat.ne_of_lt lt_b12_b334)
            replace hn341 := ((hn341.tr (Sm.ext (Ext.trans he348 he359))).apn hx364 nb_hx364).apn hx368 nb_hx368
            replace hd343 := ((hd343.tr (Sm.ext (Ext.trans he348 he359))).apn hx364 nb_hx364).apn hx368 nb_hx368
            replace hn350 := ((hn350.tr (Sm.ext he359)).apn hx364 nb_hx364).apn hx368 nb_hx368
            replace hd352 := ((hd352.tr (Sm.ext he359)).apn hx364 nb_hx364).apn hx368 nb_hx368
            replace hb360 := hb360.exc hx368 (Nat.ne_of_gt lt_b334_b358)
            refine ⟨b358, b334, vn340, vd342, vn349, vd351, ?_, ?_, ?_, ?_, ?_, ?_, ?_, ?_, ?_, ?_, ?_, ?_, ?_, ?_, ?_, ?_, ?_, ?_, ?_, ?_, ?_, ?_⟩
            · exact (by repeat (first | exact hoff62 | refine Off.st ?_ (by decide) _))
            · exact rfl
            · exact rfl
            · exact ge_b358
            · exact (Nat.lt_trans lt_b12_b334 lt_b334_b358)
            · exact ge_b334
            · exact lt_b12_b334
            · exact (Nat.ne_of_gt lt_b334_b358)
            · exact hx
            · exact hy
            · exact hdx
            · exact hdy
            · exact hE
            · exact hb4
            · exact hb9
            · exact hb14
            · exact hn341
            · exact hd343
            · exact hn350
            · exact hd352
            · exact hb360
            · exact hb336
          · refine RS.run rfl rfl rfl (by decide) (h_alloc (cs := [(.bool false), (.slice none 0 0), (.slice none 0 0)]) ty42 rfl) ?_ RS.nil
            rintro _ w372 ⟨b373, rfl, hs376, hb375, he374⟩
            refine ⟨.inr (.inr he374), RA.more (S' := fun u => Ext _ u) (fun u hu => Ext.trans he374 hu) ?_⟩
            replace hb336 := hb336.ext he339
            have lt_b334_b373 := Nat.lt_of_lt_of_eq hb336.lt hs376.symm
            have ge_b373 : w.heap.size ≤ b373 := by rw [hs376]; exact hE.size
            replace hE := Below.ext hE hE.size he374
            refine RA.all [3] (by kernel_rfl) rfl ?_
            replace hy := hy.tr (Sm.ext he374)
            replace hdy := hdy.tr (Sm.ext he374)
            refine RS.call rfl rfl rfl (by decide) (r_call (vl := [(.agg #[(.bool (sy)), vy, uy])]) ent38 rfl) (r03_norm hy (by assumption) (by first | omega | simp) hdy (by assumption) (by first | omega | simp) (show ratOf sy (val y) (val dy) = qy from ey)) ?_ RS.nil
            rintro _ w377 ⟨⟨vn379, vd381, rfl, hn380, hd382, hl383, hl384⟩, he378⟩
            refine ⟨.inr (.inr he378), RA.more (S' := fun u => Ext _ u) (fun u hu => Ext.trans he378 hu) ?_⟩
            have hlv385 := den_one qy
            replace hn380 := hn380.mono (D' := fun b T => w.heap.size ≤ b ∧ T = 52) (fun b T h => ⟨Nat.le_trans hE.size h.1, h.2⟩)
            replace hd382 := hd382.mono (D' := fun b T => w.heap.size ≤ b ∧ T = 52) (fun b T h => ⟨Nat.le_trans hE.size h.1, h.2⟩)
            replace hE := Below.ext hE hE.size he378
            refine RA.all [6] (by kernel_rfl) rfl ?_
            replace hb375 := hb375.ext he378
            refine RS.runs rfl rfl rfl (h_store (vv := (.agg #[(.bool (decide (qx.num < 0))), vn340, vd342])) (cs := [(.bool (decide (qx.num < 0))), vn340, vd342]) (o := 0) ty42 rfl rfl rfl rfl (one_cons rfl (one_cons hn341.one (one_cons hd343.one one_nil))) hb375 (Nat.le_of_ble_eq_true rfl)) ?_ RS.nil
            rintro w386 ⟨hn387, hx388, hz389⟩
            refine ⟨.inr (.inl (by kernel_rfl)), ?_⟩
            replace hE := Below.exc hE hE.size hx388 ge_b373
            have nb_hx388 := (Nb.of hb375 (nu_cons rfl (nu_cons rfl (nu_cons rfl nu_nil))))
            replace hb375 : Bk w386 b373 42 [(.bool (decide (qx.num < 0))), vn340, vd342] := hn387
            refine RA.all [7] (by kernel_rfl) rfl ?_
            replace hb336 := (hb336.ext (Ext.trans he374 he378)).exc hx388 (Nat.ne_of_lt lt_b334_b373)
            refine RS.runs rfl rfl rfl (h_store (vv := (.agg #[(.bool (decide (qy.num < 0))), vn379, vd381])) (cs := [(.bool (decide (qy.num < 0))), vn379, vd381]) (o := 0) ty42 rfl rfl rfl rfl (one_cons rfl (one_cons hn380.one (one_cons hd382.one one_nil))) hb336 (Nat.le_of_ble_eq_true rfl)) ?_ RS.nil
            rintro w390 ⟨hn391, hx392, hz393⟩
            refine ⟨.inr (.inl (by kernel_rfl)), ?_⟩
            replace hE := Below.exc hE hE.size hx392 ge_b334
            have nb_hx392 := (Nb.of hb336 (nu_cons rfl (nu_cons rfl (nu_cons rfl nu_nil))))
            replace hb336 : Bk w390 b334 42 [(.bool (decide (qy.num < 0))), vn379, vd381] := hn391
            refine RA.done (by kernel_rfl) ?_
            have hm394 := Ext.trans he339 (Ext.trans he374 he378)
            replace hx := ((hx.tr (Sm.ext hm394)).apn hx388 nb_hx388).apn hx392 nb_hx392
            replace hy := ((hy.tr (Sm.ext he378)).apn hx388 nb_hx388).apn hx392 nb_hx392
            replace hdx := ((hdx.tr (Sm.ext hm394)).apn hx388 nb_hx388).apn hx392 nb_hx392
            replace hdy := ((hdy.tr (Sm.ext he378)).apn hx388 nb_hx388).apn hx392 nb_hx392
            have hm395 := Ext.trans he335 (Ext.trans he339 (Ext.trans he374 he378))
            replace hb4 := ((hb4.ext hm395).exc hx388 (Nat.ne_of_lt (Nat.lt_trans lt_b2_b7 (Nat.lt_trans lt_b7_b12 (Nat.lt_trans lt_b12_b334 lt_b334_b373))))).exc hx392 (Nat.ne_of_lt (Nat.lt_trans lt_b2_b7 (Nat.lt_trans lt_b7_b12 lt_b12_b334)))
            replace hb9 := ((hb9.ext hm395).exc hx388 (Nat.ne_of_lt (Nat.lt_trans lt_b7_b12 (Nat.lt_trans lt_b12_b334 lt_b334_b373)))).exc hx392 (Nat.ne_of_lt (Nat.lt_trans lt_b7_b12 lt_b12_b334))
            replace hb14 := ((hb14.ext hm395).exc hx388 (Nat.ne_of_lt (Nat.lt_trans lt_b12_b334 lt_b334_b373))).exc hx392 (Nat.ne_of_lt lt_b12_b334)
            replace hn341 := ((hn341.tr (Sm.ext (Ext.trans he374 he378))).apn hx388 nb_hx388).apn hx392 nb_hx392
            replace hd343 := ((hd343.tr (Sm.ext (Ext.trans he374 he378))).apn hx388 nb_hx388).apn hx392 nb_hx392
            replace hn380 := (hn380.apn hx388 nb_hx388).apn hx392 nb_hx392
            replace hd382 := (hd382.apn hx388 nb_hx388).apn hx392 nb_hx392
            replace hb375 := hb375.exc hx392 (Nat.ne_of_gt lt_b334_b373)
            refine ⟨b373, b334, vn340, vd342, vn379, vd381, ?_, ?_, ?_, ?_, ?_, ?_, ?_, ?_, ?_, ?_, ?_, ?_, ?_, ?_, ?_, ?_, ?_, ?_, ?_, ?_, ?_, ?_⟩
            · exact (by repeat (first | exact hoff62 | refine Off.st ?_ (by decide) _))
            · exact rfl
            · exact rfl
            · exact ge_b373
            · exact (Nat.lt_trans lt_b12_b334 lt_b334_b373)
            · exact ge_b334
            · exact lt_b12_b334
            · exact (Nat.ne_of_gt lt_b334_b373)
            · exact hx
            · exact hy
            · exact hdx
            · exact hdy
            · exact hE
            · exact hb4
            · exact hb9
            · exact hb14
            · exact hn341
            · exact hd343
            · exact hn380
            · exact hd382
            · exact hb375
            · exact hb336
        · refine RS.run rfl rfl rfl (by decide) (h_alloc (cs := [(.bool false), (.slice none 0 0), (.slice none 0 0)]) ty42 rfl) ?_ RS.nil
          rintro _ w396 ⟨b397, rfl, hs400, hb399, he398⟩
          refine ⟨.inr (.inr he398), RA.more (S' := fun u => Ext _ u) (fun u hu => Ext.trans he398 hu) ?_⟩
          have lt_b334_b397 := Nat.lt_of_lt_of_eq hb336.lt hs400.symm
          have ge_b397 : w.heap.size ≤ b397 := by rw [hs400]; exact hE.size
          replace hE := Below.ext hE hE.size he398
          refine RA.all [1] (by kernel_rfl) rfl ?_
          replace hx := hx.tr (Sm.ext he398)
          replace hdx := hdx.tr (Sm.ext he398)
          refine RS.call rfl rfl rfl (by decide) (r_call (vl := [(.agg #[(.bool (sx)), vx, ux])]) ent38 rfl) (r03_norm hx (by assumption) (by first | omega | simp) hdx (by assumption) (by first | omega | simp) (show ratOf sx (val x) (val dx) = qx from ex)) ?_ RS.nil
          rintro _ w401 ⟨⟨vn403, vd405, rfl, hn404, hd406, hl407, hl408⟩, he402⟩
          refine ⟨.inr (.inr he402), RA.more (S' := fun u => Ext _ u) (fun u hu => Ext.trans he402 hu) ?_⟩
          have hlv409 := den_one qx
          replace hn404 := hn404.mono (D' := fun b T => w.heap.size ≤ b ∧ T = 52) (fun b T h => ⟨Nat.le_trans hE.size h.1, h.2⟩)
          replace hd406 := hd406.mono (D' := fun b T => w.heap.size ≤ b ∧ T = 52) (fun b T h => ⟨Nat.le_trans hE.size h.1, h.2⟩)
          replace hE := Below.ext hE hE.size he402
          refine RA.all [3] (by kernel_rfl) rfl ?_
          have hm418 := Ext.trans he3 (Ext.trans he8 (Ext.trans he13 (Ext.trans he64 (Ext.trans he335 (Ext.trans he398 he402)))))
          replace hy := hy.tr (Sm.ext hm418)
          replace hdy := hdy.tr (Sm.ext hm418)
          refine RS.call rfl rfl rfl (by decide) (r_call (vl := [(.agg #[(.bool (sy)), vy, uy])]) ent38 rfl) (r03_norm hy (by assumption) (by first | omega | simp) hdy (by assumption) (by first | omega | simp) (show ratOf sy (val y) (val dy) = qy from ey)) ?_ RS.nil
          rintro _ w410 ⟨⟨vn412, vd414, rfl, hn413, hd415, hl416, hl417⟩, he411⟩
          refine ⟨.inr (.inr he411), RA.more (S' := fun u => Ext _ u) (fun u hu => Ext.trans he411 hu) ?_⟩
          have hlv419 := den_one qy
          replace hn413 := hn413.mono (D' := fun b T => w.heap.size ≤ b ∧ T = 52) (fun b T h => ⟨Nat.le_trans hE.size h.1, h.2⟩)
          replace hd415 := hd415.mono (D' := fun b T => w.heap.size ≤ b ∧ T = 52) (fun b T h => ⟨Nat.le_trans hE.size h.1, h.2⟩)
          replace hE := Below.ext hE hE.size he411
          refine RA.all [6] (by kernel_rfl) rfl ?_
          replace hb399 := hb399.ext (Ext.trans he402 he411)
          refine RS.runs rfl rfl rfl (h_store (vv := (.agg #[(.bool (decide (qx.num < 0))), vn403, vd405])) (cs := [(.bool (decide (qx.num < 0))), vn403, vd405]) (o := 0) ty42 rfl rfl rfl rfl (one_cons rfl (one_cons hn404.one (one_cons hd406.one one_nil))) hb399 (Nat.le_of_ble_eq_true rfl)) ?_ RS.nil
          rintro w420 ⟨hn421, hx422, hz423⟩
          refine ⟨.inr (.inl (by kernel_rfl)), ?_⟩
          replace hE := Below.exc hE hE.size hx422 ge_b397
          have nb_hx422 := (Nb.of hb399 (nu_cons rfl (nu_cons rfl (nu_cons rfl nu_nil))))
          replace hb399 : Bk w420 b397 42 [(.bool (decide (qx.num < 0))), vn403, vd405] := hn421
          refine RA.all [7] (by kernel_rfl) rfl ?_
          have hm428 := Ext.trans he398 (Ext.trans he402 he411)
          replace hb336 := (hb336.ext hm428).exc hx422 (Nat.ne_of_lt lt_b334_b397)
          refine RS.runs rfl rfl rfl (h_store (vv := (.agg #[(.bool (decide (qy.num < 0))), vn412, vd414])) (cs := [(.bool (decide (qy.num < 0))), vn412, vd414]) (o := 0) ty42 rfl rfl rfl rfl (one_cons rfl (one_cons hn413.one (one_cons hd415.one one_nil))) hb336 (Nat.le_of_ble_eq_true rfl)) ?_ RS.nil
          rintro w424 ⟨hn425, hx426, hz427⟩
          refine ⟨.inr (.inl (by kernel_rfl)), ?_⟩
          replace hE := Below.exc hE hE.size hx426 ge_b334
          have nb_hx426 := (Nb.of hb336 (nu_cons rfl (nu_cons rfl (nu_cons rfl nu_nil))))
          replace hb336 : Bk w424 b334 42 [(.bool (decide (qy.num < 0))), vn412, vd414] := hn425
          refine RA.done (by kernel_rfl) ?_
          replace hx := ((hx.tr (Sm.ext (Ext.trans he402 he411))).apn hx422 nb_hx422).apn hx426 nb_hx426
          replace hy := ((hy.tr (Sm.ext he411)).apn hx422 nb_hx422).apn hx426 nb_hx426
          replace hdx := ((hdx.tr (Sm.ext (Ext.trans he402 he411))).apn hx422 nb_hx422).apn hx426 nb_hx426
          replace hdy := ((hdy.tr (Sm.ext he411)).apn hx422 nb_hx422).apn hx426 nb_hx426
          have hm429 := Ext.trans he335 (Ext.trans he398 (Ext.trans he402 he411))
          replace hb4 := ((hb4.ext hm429).exc hx422 (Nat.ne_of_lt (Nat.lt_trans lt_b2_b7 (Nat.lt_trans lt_b7_b12 (Nat.lt_trans lt_b12_b334 lt_b334_b397))))).exc hx426 (Nat.ne_of_lt (Nat.lt_trans lt_b2_b7 (Nat.lt_trans lt_b7_b12 lt_b12_b334)))
          replace hb9 := ((hb9.ext hm429).exc hx422 (Nat.ne_of_lt (Nat.lt_trans lt_b7_b12 (Nat.lt_trans lt_b12_b334 lt_b334_b397)))).exc hx426 (Nat.ne_of_lt (Nat.lt_trans lt_b7_b12 lt_b12_b334))
          replace hb14 := ((hb14.ext hm429).exc hx422 (Nat.ne_of_lt (Nat.lt_trans lt_b12_b334 lt_b334_b397))).exc hx426 (Nat.ne_of_lt lt_b12_b334)
          replace hn404 := ((hn404.tr (Sm.ext he411)).apn hx422 nb_hx422).apn hx426 nb_hx426
          replace hd406 := ((hd406.tr (Sm.ext he411)).apn hx422 nb_hx422).apn hx426 nb_hx426
          replace hn413 := (hn413.apn hx422 nb_hx422).apn hx426 nb_hx426
          replace hd415 := (hd415.apn hx422 nb_hx422).apn hx426 nb_hx426
          replace hb399 := hb399.exc hx426 (Nat.ne_of_gt lt_b334_b397)
          refine ⟨b397, b334, vn403, vd405, vn412, vd414, ?_, ?_, ?_, ?_, ?_, ?_, ?_, ?_, ?_, ?_, ?_, ?_, ?_, ?_, ?_, ?_, ?_, ?_, ?_, ?_, ?_, ?_⟩
          · exact (by repeat (first | exact hoff62 | refine Off.st ?_ (by decide) _))
          · exact rfl
          · exact rfl
          · exact ge_b397
          · exact (Nat.lt_trans lt_b12_b334 lt_b334_b397)
          · exact ge_b334
          · exact lt_b12_b334
          · exact (Nat.ne_of_gt lt_b334_b397)
          · exact hx
          · exact hy
          · exact hdx
          · exact hdy
          · exact hE
          · exact hb4
          · exact hb9
          · exact hb14
          · exact hn404
          · exact hd406
          · exact hn413
          · exact hd415
          · exact hb399
          · exact hb336
  · clear hx hy hdx hdy hE hb4 hb9 hb14
    rintro f430 w431 ⟨b44, b50, vn25, vd27, vn35, vd37, hoff432, hs433, hs434, ge_b44, lt_b12_b44, ge_b50, lt_b12_b50, ne_b44_b50, hx, hy, hdx, hdy, hE, hb4, hb9, hb14, hn26, hd28, hn36, hd38, hb46, hb52⟩
    refine wseq ?_
    refine wdraw mixed fun w435 he436 => ?_
    replace hE := Below.ext hE hE.size he436
    refine RA.take 0 rfl (by kernel_rfl) rfl rfl (by decide) (fun _ => r_fieldAddr Try.underlying42 rfl ty40 hs433) ?_
    replace hb46 := hb46.ext he436
    have hc437 := hb46.cells (o := 0) (cs := [(.bool (decide (qx.num < 0))), vn25]) rfl
    refine RA.rd 1 rfl (by kernel_rfl) rfl rfl rfl (by decide) (Ext.refl _) (fun u hu => r_loada (o := 0) (cs := [(.bool (decide (qx.num < 0))), vn25]) Try.underlying40 ag40 ty40 rfl (fun j v hj => cell_ext hu (hc437 j v hj))) ?_
    replace hb9 := hb9.ext he436
    have hc438 := hb9.cells (o := 0) (cs := [(.bool (sy)), vy, uy]) rfl
    refine RA.rd 2 rfl (by kernel_rfl) rfl rfl rfl (by decide) (Ext.refl _) (fun u hu => r_loada (o := 0) (cs := [(.bool (sy)), vy, uy]) Try.underlying42 ag42 ty42 ((hoff432 3 rfl).trans (hF17 3)) (fun j v hj => cell_ext hu (hc438 j v hj))) ?_
    refine RA.take 5 rfl (by kernel_rfl) rfl rfl (by decide) (fun _ => r_fieldAddr Try.underlying42 rfl ty40 hs434) ?_
    replace hb52 := hb52.ext he436
    have hc439 := hb52.cells (o := 0) (cs := [(.bool (decide (qy.num < 0))), vn35]) rfl
    refine RA.rd 6 rfl (by kernel_rfl) rfl rfl rfl (by decide) (Ext.refl _) (fun u hu => r_loada (o := 0) (cs := [(.bool (decide (qy.num < 0))), vn35]) Try.underlying40 ag40 ty40 rfl (fun j v hj => cell_ext hu (hc439 j v hj))) ?_
    replace hb4 := hb4.ext he436
    have hc440 := hb4.cells (o := 0) (cs := [(.bool (sx)), vx, ux]) rfl
    refine RA.rd 7 rfl (by kernel_rfl) rfl rfl rfl (by decide) (Ext.refl _) (fun u hu => r_loada (o := 0) (cs := [(.bool (sx)), vx, ux]) Try.underlying42 ag42 ty42 ((hoff432 2 rfl).trans (hF17 2)) (fun j v hj => cell_ext hu (hc440 j v hj))) ?_
    have hc441 := hb4.cells (o := 0) (cs := [(.bool (sx)), vx, ux]) rfl
    refine RA.rd 11 rfl (by kernel_rfl) rfl rfl rfl (by decide) (Ext.refl _) (fun u hu => r_loada (o := 0) (cs := [(.bool (sx)), vx, ux]) Try.underlying42 ag42 ty42 ((hoff432 2 rfl).trans (hF17 2)) (fun j v hj => cell_ext hu (hc441 j v hj))) ?_
    have hc442 := hb9.cells (o := 0) (cs := [(.bool (sy)), vy, uy]) rfl
    refine RA.rd 13 rfl (by kernel_rfl) rfl rfl rfl (by decide) (Ext.refl _) (fun u hu => r_loada (o := 0) (cs := [(.bool (sy)), vy, uy]) Try.underlying42 ag42 ty42 ((hoff432 3 rfl).trans (hF17 3)) (fun j v hj => cell_ext hu (hc442 j v hj))) ?_
    refine RA.all [3] (by kernel_rfl) rfl ?_
    replace hy := hy.tr (Sm.ext he436)
    replace hdy := hdy.tr (Sm.ext he436)
    refine RS.call rfl rfl rfl (by decide) (r_call (vl := [(.agg #[(.bool (sy)), vy, uy])]) ent39 rfl) (r03_den hy (by assumption) (by first | omega | simp) hdy (by assumption) (by first | omega | simp) (show ratOf sy (val y) (val dy) = qy from ey)) ?_ RS.nil
    rintro _ w443 ⟨⟨vr445, rfl, hr446, hl447⟩, he444⟩
    refine ⟨.inr (.inr he444), RA.more (S' := fun u => Ext _ u) (fun u hu => Ext.trans he444 hu) ?_⟩
    replace hr446 := hr446.mono (D' := fun b T => w.heap.size ≤ b ∧ T = 52) (fun b T h => ⟨Nat.le_trans hE.size h.1, h.2⟩)
    replace hE := Below.ext hE hE.size he444
    refine RA.all [4] (by kernel_rfl) rfl ?_
    replace hn26 := hn26.tr (Sm.ext (Ext.trans he436 he444))
    refine RS.call rfl rfl rfl (by decide) (r_call (vl := [(.agg #[(.bool (decide (qx.num < 0))), vn25]), (.agg #[(.bool (decide (((qy.den : Nat) : Int) < 0))), vr445])]) ent37 rfl) (r02_mul hn26 (digs_lm _) (by first | omega | simp) (sg_canon _) hr446 (digs_lm _) (by first | omega | simp) (sg_canon _)) ?_ RS.nil
    rintro _ w448 ⟨⟨vr450, rfl, hr451, hl452⟩, he449⟩
    refine ⟨.inr (.inr he449), RA.more (S' := fun u => Ext _ u) (fun u hu => Ext.trans he449 hu) ?_⟩
    replace hr451 := hr451.mono (D' := fun b T => w.heap.size ≤ b ∧ T = 52) (fun b T h => ⟨Nat.le_trans hE.size h.1, h.2⟩)
    replace hE := Below.ext hE hE.size he449
    refine RA.all [8] (by kernel_rfl) rfl ?_
    have hm458 := Ext.trans he436 (Ext.trans he444 he449)
    replace hx := hx.tr (Sm.ext hm458)
    replace hdx := hdx.tr (Sm.ext hm458)
    refine RS.call rfl rfl rfl (by decide) (r_call (vl := [(.agg #[(.bool (sx)), vx, ux])]) ent39 rfl) (r03_den hx (by assumption) (by first | omega | simp) hdx (by assumption) (by first | omega | simp) (show ratOf sx (val x) (val dx) = qx from ex)) ?_ RS.nil
    rintro _ w453 ⟨⟨vr455, rfl, hr456, hl457⟩, he454⟩
    refine ⟨.inr (.inr he454), RA.more (S' := fun u => Ext _ u) (fun u hu => Ext.trans he454 hu) ?_⟩
    replace hr456 := hr456.mono (D' := fun b T => w.heap.size ≤ b ∧ T = 52) (fun b T h => ⟨Nat.le_trans hE.size h.1, h.2⟩)
    replace hE := Below.ext hE hE.size he454
    refine RA.all [9] (by kernel_rfl) rfl ?_
    have hm464 := Ext.trans hm458 he454
    replace hn36 := hn36.tr (Sm.ext hm464)
    refine RS.call rfl rfl rfl (by decide) (r_call (vl := [(.agg #[(.bool (decide (qy.num < 0))), vn35]), (.agg #[(.bool (decide (((qx.den : Nat) : Int) < 0))), vr455])]) ent37 rfl) (r02_mul hn36 (digs_lm _) (by first | omega | simp) (sg_canon _) hr456 (digs_lm _) (by first | omega | simp) (sg_canon _)) ?_ RS.nil
    rintro _ w459 ⟨⟨vr461, rfl, hr462, hl463⟩, he460⟩
    refine ⟨.inr (.inr he460), RA.more (S' := fun u => Ext _ u) (fun u hu => Ext.trans he460 hu) ?_⟩
    replace hr462 := hr462.mono (D' := fun b T => w.heap.size ≤ b ∧ T = 52) (fun b T h => ⟨Nat.le_trans hE.size h.1, h.2⟩)
    replace hE := Below.ext hE hE.size he460
    refine RA.all [10] (by kernel_rfl) rfl ?_
    replace hr451 := hr451.tr (Sm.ext (Ext.trans he454 he460))
    refine RS.call rfl rfl rfl (by decide) (r_call (vl := [(.agg #[(.bool (decide ((qx.num * ((qy.den : Nat) : Int)) < 0))), vr450]), (.agg #[(.bool (decide ((qy.num * ((qx.den : Nat) : Int)) < 0))), vr461])]) ent55 rfl) (r02_add hr451 (digs_lm _) (by first | omega | simp) (sg_canon _) hr462 (digs_lm _) (by first | omega | simp) (sg_canon _)) ?_ RS.nil
    rintro _ w465 ⟨⟨vr467, rfl, hr468, hl469⟩, he466⟩
    refine ⟨.inr (.inr he466), RA.more (S' := fun u => Ext _ u) (fun u hu => Ext.trans he466 hu) ?_⟩
    replace hr468 := hr468.mono (D' := fun b T => w.heap.size ≤ b ∧ T = 52) (fun b T h => ⟨Nat.le_trans hE.size h.1, h.2⟩)
    replace hE := Below.ext hE hE.size he466
    refine RA.all [12] (by kernel_rfl) rfl ?_
    have hm475 := Ext.trans he454 (Ext.trans he460 he466)
    replace hx := hx.tr (Sm.ext hm475)
    replace hdx := hdx.tr (Sm.ext hm475)
    refine RS.call rfl rfl rfl (by decide) (r_call (vl := [(.agg #[(.bool (sx)), vx, ux])]) ent39 rfl) (r03_den hx (by assumption) (by first | omega | simp) hdx (by assumption) (by first | omega | simp) (show ratOf sx (val x) (val dx) = qx from ex)) ?_ RS.nil
    rintro _ w470 ⟨⟨vr472, rfl, hr473, hl474⟩, he471⟩
    refine ⟨.inr (.inr he471), RA.more (S' := fun u => Ext _ u) (fun u hu => Ext.trans he471 hu) ?_⟩
    replace hr473 := hr473.mono (D' := fun b T => w.heap.size ≤ b ∧ T = 52) (fun b T h => ⟨Nat.le_trans hE.size h.1, h.2⟩)
    replace hE := Below.ext hE hE.size he471
    refine RA.all [14] (by kernel_rfl) rfl ?_
    have hm481 := Ext.trans he444 (Ext.trans he449 (Ext.trans he454 (Ext.trans he460 (Ext.trans he466 he471))))
    replace hy := hy.tr (Sm.ext hm481)
    replace hdy := hdy.tr (Sm.ext hm481)
    refine RS.call rfl rfl rfl (by decide) (r_call (vl := [(.agg #[(.bool (sy)), vy, uy])]) ent39 rfl) (r03_den hy (by assumption) (by first | omega | simp) hdy (by assumption) (by first | omega | simp) (show ratOf sy (val y) (val dy) = qy from ey)) ?_ RS.nil
    rintro _ w476 ⟨⟨vr478, rfl, hr479, hl480⟩, he477⟩
    refine ⟨.inr (.inr he477), RA.more (S' := fun u => Ext _ u) (fun u hu => Ext.trans he477 hu) ?_⟩
    replace hr479 := hr479.mono (D' := fun b T => w.heap.size ≤ b ∧ T = 52) (fun b T h => ⟨Nat.le_trans hE.size h.1, h.2⟩)
    replace hE := Below.ext hE hE.size he477
    refine RA.all [15] (by kernel_rfl) rfl ?_
    replace hr473 := hr473.tr (Sm.ext he477)
    refine RS.call rfl rfl rfl (by decide) (r_call (vl := [(.agg #[(.bool (decide (((qx.den : Nat) : Int) < 0))), vr472]), (.agg #[(.bool (decide (((qy.den : Nat) : Int) < 0))), vr478])]) ent37 rfl) (r02_mul hr473 (digs_lm _) (by first | omega | simp) (sg_canon _) hr479 (digs_lm _) (by first | omega | simp) (sg_canon _)) ?_ RS.nil
    rintro _ w482 ⟨⟨vr484, rfl, hr485, hl486⟩, he483⟩
    refine ⟨.inr (.inr he483), RA.more (S' := fun u => Ext _ u) (fun u hu => Ext.trans he483 hu) ?_⟩
    replace hr485 := hr485.mono (D' := fun b T => w.heap.size ≤ b ∧ T = 52) (fun b T h => ⟨Nat.le_trans hE.size h.1, h.2⟩)
    replace hE := Below.ext hE hE.size he483
    refine RA.all [16] (by kernel_rfl) rfl ?_
    have hm495 := Ext.trans he471 (Ext.trans he477 he483)
    replace hr468 := hr468.tr (Sm.ext hm495)
    refine RS.call rfl rfl rfl (by decide) (r_call (vl := [(.agg #[(.bool (decide (((qx.num * ((qy.den : Nat) : Int)) + (qy.num * ((qx.den : Nat) : Int))) < 0))), vr467]), (.agg #[(.bool (decide ((((qx.den : Nat) : Int) * ((qy.den : Nat) : Int)) < 0))), vr484])]) ent25 rfl) (r03_make hr468 (digs_lm _) (by first | omega | simp) (sg_canon _) hr485 (digs_lm _) (by first | omega | simp) (sg_canon _)) ?_ RS.nil
    rintro _ w487 ⟨⟨vn489, vd491, rfl, hn490, hd492, hl493, hl494⟩, he488⟩
    refine ⟨.inr (.inr he488), RA.more (S' := fun u => Ext _ u) (fun u hu => Ext.trans he488 hu) ?_⟩
    have hlv496 := den_one (Rat.divInt ((qx.num * ((qy.den : Nat) : Int)) + (qy.num * ((qx.den : Nat) : Int))) (((qx.den : Nat) : Int) * ((qy.den : Nat) : Int)))
    replace hn490 := hn490.mono (D' := fun b T => w.heap.size ≤ b ∧ T = 52) (fun b T h => ⟨Nat.le_trans hE.size h.1, h.2⟩)
    replace hd492 := hd492.mono (D' := fun b T => w.heap.size ≤ b ∧ T = 52) (fun b T h => ⟨Nat.le_trans hE.size h.1, h.2⟩)
    replace hE := Below.ext hE hE.size he488
    refine RA.all [17] (by kernel_rfl) rfl ?_
    have hm501 := Ext.trans he436 (Ext.trans he444 (Ext.trans he449 (Ext.trans he454 (Ext.trans he460 (Ext.trans he466 (Ext.trans he471 (Ext.trans he477 (Ext.trans he483 he488))))))))
    replace hb14 := hb14.ext hm501
    refine RS.runs rfl rfl rfl (h_store (vv := (.agg #[(.bool (decide ((Rat.divInt ((qx.num * ((qy.den : Nat) : Int)) + (qy.num * ((qx.den : Nat) : Int))) (((qx.den : Nat) : Int) * ((qy.den : Nat) : Int))).num < 0))), vn489, vd491])) (cs := [(.bool (decide ((Rat.divInt ((qx.num * ((qy.den : Nat) : Int)) + (qy.num * ((qx.den : Nat) : Int))) (((qx.den : Nat) : Int) * ((qy.den : Nat) : Int))).num < 0))), vn489, vd491]) (o := 0) ty42 ((hoff432 4 rfl).trans (hF17 4)) rfl rfl rfl (one_cons rfl (one_cons hn490.one (one_cons hd492.one one_nil))) hb14 (Nat.le_of_ble_eq_true rfl)) ?_ RS.nil
    rintro w497 ⟨hn498, hx499, hz500⟩
    refine ⟨.inr (.inl (by kernel_rfl)), ?_⟩
    replace hE := Below.exc hE hE.size hx499 ge_b12
    have nb_hx499 := (Nb.of hb14 (nu_cons rfl (nu_cons rfl (nu_cons rfl nu_nil))))
    replace hb14 : Bk w497 b12 42 [(.bool (decide ((Rat.divInt ((qx.num * ((qy.den : Nat) : Int)) + (qy.num * ((qx.den : Nat) : Int))) (((qx.den : Nat) : Int) * ((qy.den : Nat) : Int))).num < 0))), vn489, vd491] := hn498
    refine RA.done (by kernel_rfl) ?_
    refine wret ?_
    refine ⟨[(.agg #[(.bool (decide ((Rat.divInt ((qx.num * ((qy.den : Nat) : Int)) + (qy.num * ((qx.den : Nat) : Int))) (((qx.den : Nat) : Int) * ((qy.den : Nat) : Int))).num < 0))), vn489, vd491])], ⟨⟨_, _, [(.bool (decide ((Rat.divInt ((qx.num * ((qy.den : Nat) : Int)) + (qy.num * ((qx.den : Nat) : Int))) (((qx.den : Nat) : Int) * ((qy.den : Nat) : Int))).num < 0))), vn489, vd491], ((hoff432 4 rfl).trans (hF17 4)), ⟨_, Try.underlying42⟩, hb14.cells rfl, .inl ⟨ag42, ⟨_, _, ty42⟩, rfl⟩⟩, trivial⟩, ?_⟩
    have hq : (Rat.divInt ((qx.num * ((qy.den : Nat) : Int)) + (qy.num * ((qx.den : Nat) : Int))) (((qx.den : Nat) : Int) * ((qy.den : Nat) : Int))) = (qx + qy) := radd_law qx qy
    rw [← hq]
    replace hn490 := hn490.apn hx499 nb_hx499
    replace hd492 := hd492.apn hx499 nb_hx499
    exact ⟨⟨_, _, rfl, hn490, hd492, by omega, by omega⟩, hE⟩

set_option maxHeartbeats 1000000 in
theorem r03_sub {w : World} {sx : Bool} {Dx Ex : Nat → TypeId → Prop} {vx ux : Value} {x dx : List Nat} (hx : Sg (gN .u32) Dx w vx x) (lmx : Lm x) (lnx : x.length ≤ 8589934592) (hdx : Sg (gN .u32) Ex w ux dx) (lmdx : Lm dx) (lndx : dx.length ≤ 8589934592) {qx : Rat} (ex : ratOf sx (val x) (val dx) = qx) {sy : Bool} {Dy Ey : Nat → TypeId → Prop} {vy uy : Value} {y dy : List Nat} (hy : Sg (gN .u32) Dy w vy y) (lmy : Lm y) (lny : y.length ≤ 8589934592) (hdy : Sg (gN .u32) Ey w uy dy) (lmdy : Lm dy) (lndy : dy.length ≤ 8589934592) {qy : Rat} (ey : ratOf sy (val y) (val dy) = qy) :
    Calls Try.prog 32 #[(.agg #[(.bool (sx)), vx, ux]), (.agg #[(.bool (sy)), vy, uy])] w fun e w' => ∃ v, e = .returned v ∧ (∃ vn vd, v = .agg #[.bool (decide ((qx - qy).num < 0)), vn, vd] ∧ Sg (gN .u32) (fun b T => w.heap.size ≤ b ∧ T = 52) w' vn (digs (qx - qy).num.natAbs) ∧ Sg (gN .u32) (fun b T => w.heap.size ≤ b ∧ T = 52) w' vd (digs (qx - qy).den) ∧ (digs (qx - qy).num.natAbs).length ≤ max (x.length + dy.length) (y.length + dx.length) + 4 ∧ (digs (qx - qy).den).length ≤ dx.length + dy.length + 5) ∧ Ext w w' := by
  have hE : Below w.heap.size w w := Below.refl _ _
  have hlqx := rl_of lmx lmdx ex
  have hdqx := den_one qx
  have hlqy := rl_of lmy lmdy ey
  have hdqy := den_one qy
  refine calls_of (n := 9) (rs := [.cell 4 42]) Try.func32 rfl rfl rfl (Nat.le_of_ble_eq_true rfl) ?_
  refine wset fun F0 hF0 => ?_
  refine wseq ?_
  refine wregion ?_
  refine RL.run rfl rfl (by decide) (h_box (vv := (.agg #[(.bool (sx)), vx, ux])) (cs := [(.bool (sx)), vx, ux]) (hF0 0) rfl) ?_
  rintro _ w1 ⟨b2, rfl, hs5, hb4, he3⟩
  have ge_b2 : w.heap.size ≤ b2 := by rw [hs5]; exact hE.size
  replace hE := Below.ext hE hE.size he3
  refine RL.run rfl rfl (by decide) (h_box (vv := (.agg #[(.bool (sy)), vy, uy])) (cs := [(.bool (sy)), vy, uy]) (hF0 1) rfl) ?_
  rintro _ w6 ⟨b7, rfl, hs10, hb9, he8⟩
  have lt_b2_b7 := Nat.lt_of_lt_of_eq hb4.lt hs10.symm
  have ge_b7 : w.heap.size ≤ b7 := by rw [hs10]; exact hE.size
  replace hE := Below.ext hE hE.size he8
  refine RL.run rfl rfl (by decide) (h_alloc (cs := [(.bool false), (.slice none 0 0), (.slice none 0 0)]) ty42 rfl) ?_
  rintro _ w11 ⟨b12, rfl, hs15, hb14, he13⟩
  have lt_b7_b12 := Nat.lt_of_lt_of_eq hb9.lt hs15.symm
  have ge_b12 : w.heap.size ≤ b12 := by rw [hs15]; exact hE.size
  replace hE := Below.ext hE hE.size he13
  refine RL.nil ?_
  refine wseq ?_
  refine wdraw mixed fun w16 he17 => ?_
  replace hE := Below.ext hE hE.size he17
  have hm19 := Ext.trans he8 (Ext.trans he13 he17)
  replace hb4 := hb4.ext hm19
  have hc18 := hb4.cells (o := 0) (cs := [(.bool (sx)), vx, ux]) rfl
  refine RA.rd 0 rfl (by kernel_rfl) rfl rfl rfl (by decide) (Ext.refl _) (fun u hu => r_loada (o := 0) (cs := [(.bool (sx)), vx, ux]) Try.underlying42 ag42 ty42 rfl (fun j v hj => cell_ext hu (hc18 j v hj))) ?_
  replace hb9 := hb9.ext (Ext.trans he13 he17)
  have hc20 := hb9.cells (o := 0) (cs := [(.bool (sy)), vy, uy]) rfl
  refine RA.rd 1 rfl (by kernel_rfl) rfl rfl rfl (by decide) (Ext.refl _) (fun u hu => r_loada (o := 0) (cs := [(.bool (sy)), vy, uy]) Try.underlying42 ag42 ty42 rfl (fun j v hj => cell_ext hu (hc20 j v hj))) ?_
  refine RA.all [2] (by kernel_rfl) rfl ?_
  have hm29 := Ext.trans he3 (Ext.trans he8 (Ext.trans he13 he17))
  replace hy := hy.tr (Sm.ext hm29)
  replace hdy := hdy.tr (Sm.ext hm29)
  refine RS.call rfl rfl rfl (by decide) (r_call (vl := [(.agg #[(.bool (sy)), vy, uy])]) ent48 rfl) (r03_neg hy (by assumption) (by first | omega | simp) hdy (by assumption) (by first | omega | simp) (show ratOf sy (val y) (val dy) = qy from ey)) ?_ RS.nil
  rintro _ w21 ⟨⟨vn23, vd25, rfl, hn24, hd26, hl27, hl28⟩, he22⟩
  refine ⟨.inr (.inr he22), RA.more (S' := fun u => Ext _ u) (fun u hu => Ext.trans he22 hu) ?_⟩
  have hlv30 := den_one (-qy)
  replace hn24 := hn24.mono (D' := fun b T => w.heap.size ≤ b ∧ T = 52) (fun b T h => ⟨Nat.le_trans hE.size h.1, h.2⟩)
  replace hd26 := hd26.mono (D' := fun b T => w.heap.size ≤ b ∧ T = 52) (fun b T h => ⟨Nat.le_trans hE.size h.1, h.2⟩)
  replace hE := Below.ext hE hE.size he22
  refine RA.all [3] (by kernel_rfl) rfl ?_
  have hm39 := Ext.trans hm29 he22
  replace hx := hx.tr (Sm.ext hm39)
  replace hdx := hdx.tr (Sm.ext hm39)
  refine RS.call rfl rfl rfl (by decide) (r_call (vl := [(.agg #[(.bool (sx)), vx, ux]), (.agg #[(.bool (decide ((-qy).num < 0))), vn23, vd25])]) ent49 rfl) (r03_add hx (by assumption) (by first | omega | simp) hdx (by assumption) (by first | omega | simp) (show ratOf sx (val x) (val dx) = qx from ex) hn24 (digs_lm _) (by first | omega | simp) hd26 (digs_lm _) (by first | omega | simp) (ratOf_canon _)) ?_ RS.nil
  rintro _ w31 ⟨⟨vn33, vd35, rfl, hn34, hd36, hl37, hl38⟩, he32⟩
  refine ⟨.inr (.inr he32), RA.more (S' := fun u => Ext _ u) (fun u hu => Ext.trans he32 hu) ?_⟩
  have hlv40 := den_one (qx + (-qy))
  replace hn34 := hn34.mono (D' := fun b T => w.heap.size ≤ b ∧ T = 52) (fun b T h => ⟨Nat.le_trans hE.size h.1, h.2⟩)
  replace hd36 := hd36.mono (D' := fun b T => w.heap.size ≤ b ∧ T = 52) (fun b T h => ⟨Nat.le_trans hE.size h.1, h.2⟩)
  replace hE := Below.ext hE hE.size he32
  refine RA.all [4] (by kernel_rfl) rfl ?_
  have hm45 := Ext.trans he17 (Ext.trans he22 he32)
  replace hb14 := hb14.ext hm45
  refine RS.runs rfl rfl rfl (h_store (vv := (.agg #[(.bool (decide ((qx + (-qy)).num < 0))), vn33, vd35])) (cs := [(.bool (decide ((qx + (-qy)).num < 0))), vn33, vd35]) (o := 0) ty42 rfl rfl rfl rfl (one_cons rfl (one_cons hn34.one (one_cons hd36.one one_nil))) hb14 (Nat.le_of_ble_eq_true rfl)) ?_ RS.nil
  rintro w41 ⟨hn42, hx43, hz44⟩
  refine ⟨.inr (.inl (by kernel_rfl)), ?_⟩
  replace hE := Below.exc hE hE.size hx43 ge_b12
  have nb_hx43 := (Nb.of hb14 (nu_cons rfl (nu_cons rfl (nu_cons rfl nu_nil))))
  replace hb14 : Bk w41 b12 42 [(.bool (decide ((qx + (-qy)).num < 0))), vn33, vd35] := hn42
  refine RA.done (by kernel_rfl) ?_
  refine wret ?_
  refine ⟨[(.agg #[(.bool (decide ((qx + (-qy)).num < 0))), vn33, vd35])], ⟨⟨_, _, [(.bool (decide ((qx + (-qy)).num < 0))), vn33, vd35], rfl, ⟨_, Try.underlying42⟩, hb14.cells rfl, .inl ⟨ag42, ⟨_, _, ty42⟩, rfl⟩⟩, trivial⟩, ?_⟩
  have hq : (qx + (-qy)) = (qx - qy) := (Rat.sub_eq_add_neg qx qy).symm
  rw [← hq]
  replace hn34 := hn34.apn hx43 nb_hx43
  replace hd36 := hd36.apn hx43 nb_hx43
  exact ⟨⟨_, _, rfl, hn34, hd36, by omega, by omega⟩, hE⟩

set_option maxHeartbeats 4000000 in
theorem r03_div {w : World} {sx : Bool} {Dx Ex : Nat → TypeId → Prop} {vx ux : Value} {x dx : List Nat} (hx : Sg (gN .u32) Dx w vx x) (lmx : Lm x) (lnx : x.length ≤ 17179869184) (hdx : Sg (gN .u32) Ex w ux dx) (lmdx : Lm dx) (lndx : dx.length ≤ 17179869184) {qx : Rat} (ex : ratOf sx (val x) (val dx) = qx) {sy : Bool} {Dy Ey : Nat → TypeId → Prop} {vy uy : Value} {y dy : List Nat} (hy : Sg (gN .u32) Dy w vy y) (lmy : Lm y) (lny : y.length ≤ 17179869184) (hdy : Sg (gN .u32) Ey w uy dy) (lmdy : Lm dy) (lndy : dy.length ≤ 17179869184) {qy : Rat} (ey : ratOf sy (val y) (val dy) = qy) :
    Calls Try.prog 24 #[(.agg #[(.bool (sx)), vx, ux]), (.agg #[(.bool (sy)), vy, uy])] w fun e w' => ∃ v, e = .returned v ∧ (∃ s' vn vd xn xd, v = .tuple #[.agg #[.bool s', vn, vd], .bool (decide (qy ≠ 0))] ∧ Sg (gN .u32) (fun b T => w.heap.size ≤ b ∧ T = 52) w' vn xn ∧ Lm xn ∧ xn.length ≤ x.length + dy.length + 1 ∧ Sg (gN .u32) (fun b T => w.heap.size ≤ b ∧ T = 52) w' vd xd ∧ Lm xd ∧ xd.length ≤ dx.length + y.length + 3 ∧ ratOf s' (val xn) (val xd) = qx / qy) ∧ Ext w w' := by
  have hE : Below w.heap.size w w := Below.refl _ _
  have hlqx := rl_of lmx lmdx ex
  have hdqx := den_one qx
  have hlqy := rl_of lmy lmdy ey
  have hdqy := den_one qy
  refine calls_of (n := 23) (rs := [.cell 4 42, .tmp 5]) Try.func24 rfl rfl rfl (Nat.le_of_ble_eq_true rfl) ?_
  refine wset fun F0 hF0 => ?_
  refine wseq ?_
  refine wregion ?_
  refine RL.run rfl rfl (by decide) (h_box (vv := (.agg #[(.bool (sx)), vx, ux])) (cs := [(.bool (sx)), vx, ux]) (hF0 0) rfl) ?_
  rintro _ w1 ⟨b2, rfl, hs5, hb4, he3⟩
  have ge_b2 : w.heap.size ≤ b2 := by rw [hs5]; exact hE.size
  replace hE := Below.ext hE hE.size he3
  refine RL.run rfl rfl (by decide) (h_box (vv := (.agg #[(.bool (sy)), vy, uy])) (cs := [(.bool (sy)), vy, uy]) (hF0 1) rfl) ?_
  rintro _ w6 ⟨b7, rfl, hs10, hb9, he8⟩
  have lt_b2_b7 := Nat.lt_of_lt_of_eq hb4.lt hs10.symm
  have ge_b7 : w.heap.size ≤ b7 := by rw [hs10]; exact hE.size
  replace hE := Below.ext hE hE.size he8
  refine RL.run rfl rfl (by decide) (h_alloc (cs := [(.bool false), (.slice none 0 0), (.slice none 0 0)]) ty42 rfl) ?_
  rintro _ w11 ⟨b12, rfl, hs15, hb14, he13⟩
  have lt_b7_b12 := Nat.lt_of_lt_of_eq hb9.lt hs15.symm
  have ge_b12 : w.heap.size ≤ b12 := by rw [hs15]; exact hE.size
  replace hE := Below.ext hE hE.size he13
  refine RL.val rfl rfl (by decide) (r_assign_as (v := (.bool (false))) rfl) ?_
  refine RL.nil ?_
  refine wseq ?_
  refine wseq ?_
  refine wregion ?_
  replace hb9 := hb9.ext he13
  have hc16 := hb9.cells (o := 0) (cs := [(.bool (sy)), vy, uy]) rfl
  refine RL.val rfl rfl (by decide) (r_loada (o := 0) (cs := [(.bool (sy)), vy, uy]) Try.underlying42 ag42 ty42 rfl hc16) ?_
  have hm19 := Ext.trans he3 (Ext.trans he8 he13)
  replace hy := hy.tr (Sm.ext hm19)
  replace hdy := hdy.tr (Sm.ext hm19)
  refine RL.call rfl rfl (by decide) (r_call (vl := [(.agg #[(.bool (sy)), vy, uy])]) ent33 rfl) (r03_sign hy (by assumption) (by first | omega | simp) hdy (by assumption) (by first | omega | simp) (show ratOf sy (val y) (val dy) = qy from ey)) ?_
  rintro _ w17 ⟨rfl, he18⟩
  replace hE := Below.ext hE hE.size he18
  refine RL.val rfl rfl (by decide) (r_eql (k := .i64) (a := Int.sign qy.num) (b := 0) rfl rfl) ?_
  refine RL.nil ?_
  refine wcond (b := decide ((Int.sign qy.num) = 0)) rfl (fun hb20 => ?_) (fun hb20 => ?_)
  · have hb20p := hb20
    replace hb20p := of_decide_eq_true hb20p
    have hy0 : qy = 0 := (sign_eq qy).1 hb20p
    refine wseq ?_
    refine wregion ?_
    refine RL.val rfl rfl (by decide) (r_build (vl := []) (cs := [(.bool false), (.slice none 0 0), (.slice none 0 0)]) Try.underlying42 ty42 rfl pl42 rfl) ?_
    replace hb14 := hb14.ext he18
    refine RL.runs rfl rfl (h_store (vv := (.agg #[(.bool false), (.slice none 0 0), (.slice none 0 0)])) (cs := [(.bool false), (.slice none 0 0), (.slice none 0 0)]) (o := 0) ty42 rfl rfl rfl rfl (one_cons rfl (one_cons rfl (one_cons rfl one_nil))) hb14 (Nat.le_of_ble_eq_true rfl)) ?_
    rintro w21 ⟨hn22, hx23, hz24⟩
    replace hE := Below.exc hE hE.size hx23 ge_b12
    have nb_hx23 := (Nb.of hb14 (nu_cons rfl (nu_cons rfl (nu_cons rfl nu_nil))))
    replace hb14 : Bk w21 b12 42 [(.bool false), (.slice none 0 0), (.slice none 0 0)] := hn22
    refine RL.val rfl rfl (by decide) (r_assign_as (v := (.bool (false))) rfl) ?_
    refine RL.nil ?_
    refine wret ?_
    refine ⟨[(.agg #[(.bool false), (.slice none 0 0), (.slice none 0 0)]), (.bool (false))], ⟨⟨_, _, [(.bool false), (.slice none 0 0), (.slice none 0 0)], rfl, ⟨_, Try.underlying42⟩, hb14.cells rfl, .inl ⟨ag42, ⟨_, _, ty42⟩, rfl⟩⟩, ⟨rfl, trivial⟩⟩, ?_⟩
    exact ⟨⟨_, _, _, [], [], by rw [hy0, decide_eq_false (show ¬ ((0 : Rat) ≠ 0) by simp)]; rfl, Sg.nil, Lm.nil, Nat.zero_le _, Sg.nil, Lm.nil, Nat.zero_le _, by rw [hy0]; exact rdiv_zero qx⟩, hE⟩
  · have hb20p := hb20
    replace hb20p := of_decide_eq_false hb20p
    have hy0 : qy ≠ 0 := fun h => hb20p ((sign_eq qy).2 h)
    refine wskip ?_
    refine wseq ?_
    refine wdraw mixed fun w25 he26 => ?_
    replace hE := Below.ext hE hE.size he26
    have hm28 := Ext.trans he8 (Ext.trans he13 (Ext.trans he18 he26))
    replace hb4 := hb4.ext hm28
    have hc27 := hb4.cells (o := 0) (cs := [(.bool (sx)), vx, ux]) rfl
    refine RA.rd 0 rfl (by kernel_rfl) rfl rfl rfl (by decide) (Ext.refl _) (fun u hu => r_loada (o := 0) (cs := [(.bool (sx)), vx, ux]) Try.underlying42 ag42 ty42 rfl (fun j v hj => cell_ext hu (hc27 j v hj))) ?_
    replace hb9 := hb9.ext (Ext.trans he18 he26)
    have hc29 := hb9.cells (o := 0) (cs := [(.bool (sy)), vy, uy]) rfl
    refine RA.rd 3 rfl (by kernel_rfl) rfl rfl rfl (by decide) (Ext.refl _) (fun u hu => r_loada (o := 0) (cs := [(.bool (sy)), vy, uy]) Try.underlying42 ag42 ty42 rfl (fun j v hj => cell_ext hu (hc29 j v hj))) ?_
    have hc30 := hb4.cells (o := 0) (cs := [(.bool (sx)), vx, ux]) rfl
    refine RA.rd 6 rfl (by kernel_rfl) rfl rfl rfl (by decide) (Ext.refl _) (fun u hu => r_loada (o := 0) (cs := [(.bool (sx)), vx, ux]) Try.underlying42 ag42 ty42 rfl (fun j v hj => cell_ext hu (hc30 j v hj))) ?_
    have hc31 := hb9.cells (o := 0) (cs := [(.bool (sy)), vy, uy]) rfl
    refine RA.rd 8 rfl (by kernel_rfl) rfl rfl rfl (by decide) (Ext.refl _) (fun u hu => r_loada (o := 0) (cs := [(.bool (sy)), vy, uy]) Try.underlying42 ag42 ty42 rfl (fun j v hj => cell_ext hu (hc31 j v hj))) ?_
    refine RA.all [1] (by kernel_rfl) rfl ?_
    have hm40 := Ext.trans he3 (Ext.trans he8 (Ext.trans he13 (Ext.trans he18 he26)))
    replace hx := hx.tr (Sm.ext hm40)
    replace hdx := hdx.tr (Sm.ext hm40)
    refine RS.call rfl rfl rfl (by decide) (r_call (vl := [(.agg #[(.bool (sx)), vx, ux])]) ent38 rfl) (r03_norm hx (by assumption) (by first | omega | simp) hdx (by assumption) (by first | omega | simp) (show ratOf sx (val x) (val dx) = qx from ex)) ?_ RS.nil
    rintro _ w32 ⟨⟨vn34, vd36, rfl, hn35, hd37, hl38, hl39⟩, he33⟩
    refine ⟨.inr (.inr he33), RA.more (S' := fun u => Ext _ u) (fun u hu => Ext.trans he33 hu) ?_⟩
    have hlv41 := den_one qx
    replace hn35 := hn35.mono (D' := fun b T => w.heap.size ≤ b ∧ T = 52) (fun b T h => ⟨Nat.le_trans hE.size h.1, h.2⟩)
    replace hd37 := hd37.mono (D' := fun b T => w.heap.size ≤ b ∧ T = 52) (fun b T h => ⟨Nat.le_trans hE.size h.1, h.2⟩)
    replace hE := Below.ext hE hE.size he33
    refine RA.take 2 rfl (by kernel_rfl) rfl rfl (by decide) (fun _ => r_fielda Try.underlying42 rfl Try.underlying40 ag40 ty40 rfl) ?_
    refine RA.all [4] (by kernel_rfl) rfl ?_
    have hm47 := Ext.trans he18 (Ext.trans he26 he33)
    replace hy := hy.tr (Sm.ext hm47)
    replace hdy := hdy.tr (Sm.ext hm47)
    refine RS.call rfl rfl rfl (by decide) (r_call (vl := [(.agg #[(.bool (sy)), vy, uy])]) ent39 rfl) (r03_den hy (by assumption) (by first | omega | simp) hdy (by assumption) (by first | omega | simp) (show ratOf sy (val y) (val dy) = qy from ey)) ?_ RS.nil
    rintro _ w42 ⟨⟨vr44, rfl, hr45, hl46⟩, he43⟩
    refine ⟨.inr (.inr he43), RA.more (S' := fun u => Ext _ u) (fun u hu => Ext.trans he43 hu) ?_⟩
    replace hr45 := hr45.mono (D' := fun b T => w.heap.size ≤ b ∧ T = 52) (fun b T h => ⟨Nat.le_trans hE.size h.1, h.2⟩)
    replace hE := Below.ext hE hE.size he43
    refine RA.all [5] (by kernel_rfl) rfl ?_
    replace hn35 := hn35.tr (Sm.ext he43)
    refine RS.call rfl rfl rfl (by decide) (r_call (vl := [(.agg #[(.bool (decide (qx.num < 0))), vn34]), (.agg #[(.bool (decide (((qy.den : Nat) : Int) < 0))), vr44])]) ent37 rfl) (r02_mul hn35 (digs_lm _) (by first | omega | simp) (sg_canon _) hr45 (digs_lm _) (by first | omega | simp) (sg_canon _)) ?_ RS.nil
    rintro _ w48 ⟨⟨vr50, rfl, hr51, hl52⟩, he49⟩
    refine ⟨.inr (.inr he49), RA.more (S' := fun u => Ext _ u) (fun u hu => Ext.trans he49 hu) ?_⟩
    replace hr51 := hr51.mono (D' := fun b T => w.heap.size ≤ b ∧ T = 52) (fun b T h => ⟨Nat.le_trans hE.size h.1, h.2⟩)
    replace hE := Below.ext hE hE.size he49
    refine RA.all [7] (by kernel_rfl) rfl ?_
    have hm58 := Ext.trans he33 (Ext.trans he43 he49)
    replace hx := hx.tr (Sm.ext hm58)
    replace hdx := hdx.tr (Sm.ext hm58)
    refine RS.call rfl rfl rfl (by decide) (r_call (vl := [(.agg #[(.bool (sx)), vx, ux])]) ent39 rfl) (r03_den hx (by assumption) (by first | omega | simp) hdx (by assumption) (by first | omega | simp) (show ratOf sx (val x) (val dx) = qx from ex)) ?_ RS.nil
    rintro _ w53 ⟨⟨vr55, rfl, hr56, hl57⟩, he54⟩
    refine ⟨.inr (.inr he54), RA.more (S' := fun u => Ext _ u) (fun u hu => Ext.trans he54 hu) ?_⟩
    replace hr56 := hr56.mono (D' := fun b T => w.heap.size ≤ b ∧ T = 52) (fun b T h => ⟨Nat.le_trans hE.size h.1, h.2⟩)
    replace hE := Below.ext hE hE.size he54
    refine RA.all [9] (by kernel_rfl) rfl ?_
    have hm67 := Ext.trans he43 (Ext.trans he49 he54)
    replace hy := hy.tr (Sm.ext hm67)
    replace hdy := hdy.tr (Sm.ext hm67)
    refine RS.call rfl rfl rfl (by decide) (r_call (vl := [(.agg #[(.bool (sy)), vy, uy])]) ent38 rfl) (r03_norm hy (by assumption) (by first | omega | simp) hdy (by assumption) (by first | omega | simp) (show ratOf sy (val y) (val dy) = qy from ey)) ?_ RS.nil
    rintro _ w59 ⟨⟨vn61, vd63, rfl, hn62, hd64, hl65, hl66⟩, he60⟩
    refine ⟨.inr (.inr he60), RA.more (S' := fun u => Ext _ u) (fun u hu => Ext.trans he60 hu) ?_⟩
    have hlv68 := den_one qy
    replace hn62 := hn62.mono (D' := fun b T => w.heap.size ≤ b ∧ T = 52) (fun b T h => ⟨Nat.le_trans hE.size h.1, h.2⟩)
    replace hd64 := hd64.mono (D' := fun b T => w.heap.size ≤ b ∧ T = 52) (fun b T h => ⟨Nat.le_trans hE.size h.1, h.2⟩)
    replace hE := Below.ext hE hE.size he60
    refine RA.take 10 rfl (by kernel_rfl) rfl rfl (by decide) (fun _ => r_fielda Try.underlying42 rfl Try.underlying40 ag40 ty40 rfl) ?_
    refine RA.all [11] (by kernel_rfl) rfl ?_
    replace hr56 := hr56.tr (Sm.ext he60)
    refine RS.call rfl rfl rfl (by decide) (r_call (vl := [(.agg #[(.bool (decide (((qx.den : Nat) : Int) < 0))), vr55]), (.agg #[(.bool (decide (qy.num < 0))), vn61])]) ent37 rfl) (r02_mul hr56 (digs_lm _) (by first | omega | simp) (sg_canon _) hn62 (digs_lm _) (by first | omega | simp) (sg_canon _)) ?_ RS.nil
    rintro _ w69 ⟨⟨vr71, rfl, hr72, hl73⟩, he70⟩
    refine ⟨.inr (.inr he70), RA.more (S' := fun u => Ext _ u) (fun u hu => Ext.trans he70 hu) ?_⟩
    replace hr72 := hr72.mono (D' := fun b T => w.heap.size ≤ b ∧ T = 52) (fun b T h => ⟨Nat.le_trans hE.size h.1, h.2⟩)
    replace hE := Below.ext hE hE.size he70
    refine RA.all [12] (by kernel_rfl) rfl ?_
    have hm82 := Ext.trans he54 (Ext.trans he60 he70)
    replace hr51 := hr51.tr (Sm.ext hm82)
    refine RS.call rfl rfl rfl (by decide) (r_call (vl := [(.agg #[(.bool (decide ((qx.num * ((qy.den : Nat) : Int)) < 0))), vr50]), (.agg #[(.bool (decide ((((qx.den : Nat) : Int) * qy.num) < 0))), vr71])]) ent25 rfl) (r03_make hr51 (digs_lm _) (by first | omega | simp) (sg_canon _) hr72 (digs_lm _) (by first | omega | simp) (sg_canon _)) ?_ RS.nil
    rintro _ w74 ⟨⟨vn76, vd78, rfl, hn77, hd79, hl80, hl81⟩, he75⟩
    refine ⟨.inr (.inr he75), RA.more (S' := fun u => Ext _ u) (fun u hu => Ext.trans he75 hu) ?_⟩
    have hlv83 := den_one (Rat.divInt (qx.num * ((qy.den : Nat) : Int)) (((qx.den : Nat) : Int) * qy.num))
    replace hn77 := hn77.mono (D' := fun b T => w.heap.size ≤ b ∧ T = 52) (fun b T h => ⟨Nat.le_trans hE.size h.1, h.2⟩)
    replace hd79 := hd79.mono (D' := fun b T => w.heap.size ≤ b ∧ T = 52) (fun b T h => ⟨Nat.le_trans hE.size h.1, h.2⟩)
    replace hE := Below.ext hE hE.size he75
    refine RA.all [13] (by kernel_rfl) rfl ?_
    have hm88 := Ext.trans he18 (Ext.trans he26 (Ext.trans he33 (Ext.trans he43 (Ext.trans he49 (Ext.trans he54 (Ext.trans he60 (Ext.trans he70 he75)))))))
    replace hb14 := hb14.ext hm88
    refine RS.runs rfl rfl rfl (h_store (vv := (.agg #[(.bool (decide ((Rat.divInt (qx.num * ((qy.den : Nat) : Int)) (((qx.den : Nat) : Int) * qy.num)).num < 0))), vn76, vd78])) (cs := [(.bool (decide ((Rat.divInt (qx.num * ((qy.den : Nat) : Int)) (((qx.den : Nat) : Int) * qy.num)).num < 0))), vn76, vd78]) (o := 0) ty42 rfl rfl rfl rfl (one_cons rfl (one_cons hn77.one (one_cons hd79.one one_nil))) hb14 (Nat.le_of_ble_eq_true rfl)) ?_ RS.nil
    rintro w84 ⟨hn85, hx86, hz87⟩
    refine ⟨.inr (.inl (by kernel_rfl)), ?_⟩
    replace hE := Below.exc hE hE.size hx86 ge_b12
    have nb_hx86 := (Nb.of hb14 (nu_cons rfl (nu_cons rfl (nu_cons rfl nu_nil))))
    replace hb14 : Bk w84 b12 42 [(.bool (decide ((Rat.divInt (qx.num * ((qy.den : Nat) : Int)) (((qx.den : Nat) : Int) * qy.num)).num < 0))), vn76, vd78] := hn85
    refine RA.take 14 rfl (by kernel_rfl) rfl rfl (by decide) (fun _ => r_assign_as (v := (.bool (true))) rfl) ?_
    refine RA.done (by kernel_rfl) ?_
    refine wret ?_
    refine ⟨[(.agg #[(.bool (decide ((Rat.divInt (qx.num * ((qy.den : Nat) : Int)) (((qx.den : Nat) : Int) * qy.num)).num < 0))), vn76, vd78]), (.bool (true))], ⟨⟨_, _, [(.bool (decide ((Rat.divInt (qx.num * ((qy.den : Nat) : Int)) (((qx.den : Nat) : Int) * qy.num)).num < 0))), vn76, vd78], rfl, ⟨_, Try.underlying42⟩, hb14.cells rfl, .inl ⟨ag42, ⟨_, _, ty42⟩, rfl⟩⟩, ⟨rfl, trivial⟩⟩, ?_⟩
    have hq := rdiv_law qx qy
    replace hn77 := hn77.apn hx86 nb_hx86
    replace hd79 := hd79.apn hx86 nb_hx86
    exact ⟨⟨_, _, _, _, _, by rw [decide_eq_true hy0]; rfl, hn77, digs_lm _, by omega, hd79, digs_lm _, by omega, by rw [← hq]; exact ratOf_canon _⟩, hE⟩

set_option maxHeartbeats 1000000 in
theorem r03_over {w : World} {sx : Bool} {Dx Ex : Nat → TypeId → Prop} {vx ux : Value} {x dx : List Nat} (hx : Sg (gN .u32) Dx w vx x) (lmx : Lm x) (lnx : x.length ≤ 17179869184) (hdx : Sg (gN .u32) Ex w ux dx) (lmdx : Lm dx) (lndx : dx.length ≤ 17179869184) {qx : Rat} (ex : ratOf sx (val x) (val dx) = qx) {sy : Bool} {Dy Ey : Nat → TypeId → Prop} {vy uy : Value} {y dy : List Nat} (hy : Sg (gN .u32) Dy w vy y) (lmy : Lm y) (lny : y.length ≤ 17179869184) (hdy : Sg (gN .u32) Ey w uy dy) (lmdy : Lm dy) (lndy : dy.length ≤ 17179869184) {qy : Rat} (ey : ratOf sy (val y) (val dy) = qy) :
    Calls Try.prog 14 #[(.agg #[(.bool (sx)), vx, ux]), (.agg #[(.bool (sy)), vy, uy])] w fun e w' => ∃ v, e = .returned v ∧ (∃ s' vn vd xn xd, v = .agg #[.bool s', vn, vd] ∧ Sg (gN .u32) (fun b T => w.heap.size ≤ b ∧ T = 52) w' vn xn ∧ Lm xn ∧ xn.length ≤ x.length + dy.length + 1 ∧ Sg (gN .u32) (fun b T => w.heap.size ≤ b ∧ T = 52) w' vd xd ∧ Lm xd ∧ xd.length ≤ dx.length + y.length + 3 ∧ ratOf s' (val xn) (val xd) = qx / qy) ∧ Ext w w' := by
  have hE : Below w.heap.size w w := Below.refl _ _
  have hlqx := rl_of lmx lmdx ex
  have hdqx := den_one qx
  have hlqy := rl_of lmy lmdy ey
  have hdqy := den_one qy
  refine calls_of (n := 14) (rs := [.cell 4 42]) Try.func14 rfl rfl rfl (Nat.le_of_ble_eq_true rfl) ?_
  refine wset fun F0 hF0 => ?_
  refine wseq ?_
  refine wregion ?_
  refine RL.run rfl rfl (by decide) (h_box (vv := (.agg #[(.bool (sx)), vx, ux])) (cs := [(.bool (sx)), vx, ux]) (hF0 0) rfl) ?_
  rintro _ w1 ⟨b2, rfl, hs5, hb4, he3⟩
  have ge_b2 : w.heap.size ≤ b2 := by rw [hs5]; exact hE.size
  replace hE := Below.ext hE hE.size he3
  refine RL.run rfl rfl (by decide) (h_box (vv := (.agg #[(.bool (sy)), vy, uy])) (cs := [(.bool (sy)), vy, uy]) (hF0 1) rfl) ?_
  rintro _ w6 ⟨b7, rfl, hs10, hb9, he8⟩
  have lt_b2_b7 := Nat.lt_of_lt_of_eq hb4.lt hs10.symm
  have ge_b7 : w.heap.size ≤ b7 := by rw [hs10]; exact hE.size
  replace hE := Below.ext hE hE.size he8
  refine RL.run rfl rfl (by decide) (h_alloc (cs := [(.bool false), (.slice none 0 0), (.slice none 0 0)]) ty42 rfl) ?_
  rintro _ w11 ⟨b12, rfl, hs15, hb14, he13⟩
  have lt_b7_b12 := Nat.lt_of_lt_of_eq hb9.lt hs15.symm
  have ge_b12 : w.heap.size ≤ b12 := by rw [hs15]; exact hE.size
  replace hE := Below.ext hE hE.size he13
  refine RL.nil ?_
  refine wseq ?_
  refine wregion ?_
  replace hb4 := hb4.ext (Ext.trans he8 he13)
  have hc16 := hb4.cells (o := 0) (cs := [(.bool (sx)), vx, ux]) rfl
  refine RL.val rfl rfl (by decide) (r_loada (o := 0) (cs := [(.bool (sx)), vx, ux]) Try.underlying42 ag42 ty42 rfl hc16) ?_
  replace hb9 := hb9.ext he13
  have hc17 := hb9.cells (o := 0) (cs := [(.bool (sy)), vy, uy]) rfl
  refine RL.val rfl rfl (by decide) (r_loada (o := 0) (cs := [(.bool (sy)), vy, uy]) Try.underlying42 ag42 ty42 rfl hc17) ?_
  have hm32 := Ext.trans he3 (Ext.trans he8 he13)
  replace hx := hx.tr (Sm.ext hm32)
  replace hdx := hdx.tr (Sm.ext hm32)
  replace hy := hy.tr (Sm.ext hm32)
  replace hdy := hdy.tr (Sm.ext hm32)
  refine RL.call rfl rfl (by decide) (r_call (vl := [(.agg #[(.bool (sx)), vx, ux]), (.agg #[(.bool (sy)), vy, uy])]) ent24 rfl) (r03_div hx (by assumption) (by first | omega | simp) hdx (by assumption) (by first | omega | simp) (show ratOf sx (val x) (val dx) = qx from ex) hy (by assumption) (by first | omega | simp) hdy (by assumption) (by first | omega | simp) (show ratOf sy (val y) (val dy) = qy from ey)) ?_
  rintro _ w18 ⟨⟨s22, vn23, vd24, x25, d26, rfl, hx27, lm28, ln20, hd29, lm30, ln21, eq31⟩, he19⟩
  replace hx27 := hx27.mono (D' := fun b T => w.heap.size ≤ b ∧ T = 52) (fun b T h => ⟨Nat.le_trans hE.size h.1, h.2⟩)
  replace hd29 := hd29.mono (D' := fun b T => w.heap.size ≤ b ∧ T = 52) (fun b T h => ⟨Nat.le_trans hE.size h.1, h.2⟩)
  replace hE := Below.ext hE hE.size he19
  refine RL.val rfl rfl (by decide) (r_move_as (v := (.tuple #[(.agg #[(.bool (s22)), vn23, vd24]), (.bool (decide (qy ≠ 0)))])) rfl) ?_
  refine RL.val rfl rfl (by decide) (r_extract (v := (.agg #[(.bool (s22)), vn23, vd24])) rfl rfl) ?_
  refine RL.val rfl rfl (by decide) (r_extract (v := (.bool (decide (qy ≠ 0)))) rfl rfl) ?_
  refine RL.run rfl rfl (by decide) (h_alloc (cs := [(.bool false), (.slice none 0 0), (.slice none 0 0)]) ty42 rfl) ?_
  rintro _ w33 ⟨b34, rfl, hs37, hb36, he35⟩
  replace hb14 := hb14.ext he19
  have lt_b12_b34 := Nat.lt_of_lt_of_eq hb14.lt hs37.symm
  have ge_b34 : w.heap.size ≤ b34 := by rw [hs37]; exact hE.size
  replace hE := Below.ext hE hE.size he35
  refine RL.runs rfl rfl (h_store (vv := (.agg #[(.bool (s22)), vn23, vd24])) (cs := [(.bool (s22)), vn23, vd24]) (o := 0) ty42 rfl rfl rfl rfl (one_cons rfl (one_cons hx27.one (one_cons hd29.one one_nil))) hb36 (Nat.le_of_ble_eq_true rfl)) ?_
  rintro w38 ⟨hn39, hx40, hz41⟩
  replace hE := Below.exc hE hE.size hx40 ge_b34
  have nb_hx40 := (Nb.of hb36 (nu_cons rfl (nu_cons rfl (nu_cons rfl nu_nil))))
  replace hb36 : Bk w38 b34 42 [(.bool (s22)), vn23, vd24] := hn39
  refine RL.val rfl rfl (by decide) (r_assign_as (v := (.bool (decide (qy ≠ 0)))) rfl) ?_
  refine RL.nil ?_
  refine wseq ?_
  refine wregion ?_
  have hc42 := hb36.cells (o := 0) (cs := [(.bool (s22)), vn23, vd24]) rfl
  refine RL.val rfl rfl (by decide) (r_loada (o := 0) (cs := [(.bool (s22)), vn23, vd24]) Try.underlying42 ag42 ty42 rfl hc42) ?_
  replace hb14 := (hb14.ext he35).exc hx40 (Nat.ne_of_lt lt_b12_b34)
  refine RL.runs rfl rfl (h_store (vv := (.agg #[(.bool (s22)), vn23, vd24])) (cs := [(.bool (s22)), vn23, vd24]) (o := 0) ty42 rfl rfl rfl rfl (one_cons rfl (one_cons hx27.one (one_cons hd29.one one_nil))) hb14 (Nat.le_of_ble_eq_true rfl)) ?_
  rintro w43 ⟨hn44, hx45, hz46⟩
  replace hE := Below.exc hE hE.size hx45 ge_b12
  have nb_hx45 := (Nb.of hb14 (nu_cons rfl (nu_cons rfl (nu_cons rfl nu_nil))))
  replace hb14 : Bk w43 b12 42 [(.bool (s22)), vn23, vd24] := hn44
  refine RL.nil ?_
  refine wret ?_
  refine ⟨[(.agg #[(.bool (s22)), vn23, vd24])], ⟨⟨_, _, [(.bool (s22)), vn23, vd24], rfl, ⟨_, Try.underlying42⟩, hb14.cells rfl, .inl ⟨ag42, ⟨_, _, ty42⟩, rfl⟩⟩, trivial⟩, ?_⟩
  replace hx27 := ((hx27.tr (Sm.ext he35)).apn hx40 nb_hx40).apn hx45 nb_hx45
  replace hd29 := ((hd29.tr (Sm.ext he35)).apn hx40 nb_hx40).apn hx45 nb_hx45
  exact ⟨⟨_, _, _, _, _, rfl, hx27, lm28, by omega, hd29, lm30, by omega, (show ratOf s22 (val x25) (val d26) = qx / qy from eq31)⟩, hE⟩

set_option maxHeartbeats 1000000 in
theorem r03_compare {w : World} {sx : Bool} {Dx Ex : Nat → TypeId → Prop} {vx ux : Value} {x dx : List Nat} (hx : Sg (gN .u32) Dx w vx x) (lmx : Lm x) (lnx : x.length ≤ 2147483648) (hdx : Sg (gN .u32) Ex w ux dx) (lmdx : Lm dx) (lndx : dx.length ≤ 2147483648) {qx : Rat} (ex : ratOf sx (val x) (val dx) = qx) {sy : Bool} {Dy Ey : Nat → TypeId → Prop} {vy uy : Value} {y dy : List Nat} (hy : Sg (gN .u32) Dy w vy y) (lmy : Lm y) (lny : y.length ≤ 2147483648) (hdy : Sg (gN .u32) Ey w uy dy) (lmdy : Lm dy) (lndy : dy.length ≤ 2147483648) {qy : Rat} (ey : ratOf sy (val y) (val dy) = qy) :
    Calls Try.prog 27 #[(.agg #[(.bool (sx)), vx, ux]), (.agg #[(.bool (sy)), vy, uy])] w fun e w' => ∃ v, e = .returned v ∧ v = .int .i64 (cmpQ qx qy) ∧ Ext w w' := by
  have hE : Below w.heap.size w w := Below.refl _ _
  have hlqx := rl_of lmx lmdx ex
  have hdqx := den_one qx
  have hlqy := rl_of lmy lmdy ey
  have hdqy := den_one qy
  refine calls_of (n := 9) (rs := [.tmp 4]) Try.func27 rfl rfl rfl (Nat.le_of_ble_eq_true rfl) ?_
  refine wset fun F0 hF0 => ?_
  refine wseq ?_
  refine wregion ?_
  refine RL.run rfl rfl (by decide) (h_box (vv := (.agg #[(.bool (sx)), vx, ux])) (cs := [(.bool (sx)), vx, ux]) (hF0 0) rfl) ?_
  rintro _ w1 ⟨b2, rfl, hs5, hb4, he3⟩
  have ge_b2 : w.heap.size ≤ b2 := by rw [hs5]; exact hE.size
  replace hE := Below.ext hE hE.size he3
  refine RL.run rfl rfl (by decide) (h_box (vv := (.agg #[(.bool (sy)), vy, uy])) (cs := [(.bool (sy)), vy, uy]) (hF0 1) rfl) ?_
  rintro _ w6 ⟨b7, rfl, hs10, hb9, he8⟩
  have lt_b2_b7 := Nat.lt_of_lt_of_eq hb4.lt hs10.symm
  have ge_b7 : w.heap.size ≤ b7 := by rw [hs10]; exact hE.size
  replace hE := Below.ext hE hE.size he8
  refine RL.val rfl rfl (by decide) (r_assign_as (v := (.int .i64 (0))) rfl) ?_
  refine RL.nil ?_
  refine wseq ?_
  refine wregion ?_
  replace hb4 := hb4.ext he8
  have hc11 := hb4.cells (o := 0) (cs := [(.bool (sx)), vx, ux]) rfl
  refine RL.val rfl rfl (by decide) (r_loada (o := 0) (cs := [(.bool (sx)), vx, ux]) Try.underlying42 ag42 ty42 rfl hc11) ?_
  have hc12 := hb9.cells (o := 0) (cs := [(.bool (sy)), vy, uy]) rfl
  refine RL.val rfl rfl (by decide) (r_loada (o := 0) (cs := [(.bool (sy)), vy, uy]) Try.underlying42 ag42 ty42 rfl hc12) ?_
  replace hx := hx.tr (Sm.ext (Ext.trans he3 he8))
  replace hdx := hdx.tr (Sm.ext (Ext.trans he3 he8))
  replace hy := hy.tr (Sm.ext (Ext.trans he3 he8))
  replace hdy := hdy.tr (Sm.ext (Ext.trans he3 he8))
  refine RL.call rfl rfl (by decide) (r_call (vl := [(.agg #[(.bool (sx)), vx, ux]), (.agg #[(.bool (sy)), vy, uy])]) ent32 rfl) (r03_sub hx (by assumption) (by first | omega | simp) hdx (by assumption) (by first | omega | simp) (show ratOf sx (val x) (val dx) = qx from ex) hy (by assumption) (by first | omega | simp) hdy (by assumption) (by first | omega | simp) (show ratOf sy (val y) (val dy) = qy from ey)) ?_
  rintro _ w13 ⟨⟨vn15, vd17, rfl, hn16, hd18, hl19, hl20⟩, he14⟩
  have hlv21 := den_one (qx - qy)
  replace hn16 := hn16.mono (D' := fun b T => w.heap.size ≤ b ∧ T = 52) (fun b T h => ⟨Nat.le_trans hE.size h.1, h.2⟩)
  replace hd18 := hd18.mono (D' := fun b T => w.heap.size ≤ b ∧ T = 52) (fun b T h => ⟨Nat.le_trans hE.size h.1, h.2⟩)
  replace hE := Below.ext hE hE.size he14
  refine RL.call rfl rfl (by decide) (r_call (vl := [(.agg #[(.bool (decide ((qx - qy).num < 0))), vn15, vd17])]) ent33 rfl) (r03_sign hn16 (digs_lm _) (by first | omega | simp) hd18 (digs_lm _) (by first | omega | simp) (ratOf_canon _)) ?_
  rintro _ w22 ⟨rfl, he23⟩
  replace hE := Below.ext hE hE.size he23
  refine RL.val rfl rfl (by decide) (r_assign_as (v := (.int .i64 (Int.sign (qx - qy).num))) rfl) ?_
  refine RL.nil ?_
  refine wret ?_
  refine ⟨[(.int .i64 (Int.sign (qx - qy).num))], ⟨rfl, trivial⟩, ?_⟩
  exact ⟨int_eq (cmp_sign qx qy), hE⟩

end Go.Proofs.Ytppgppnkhpjlpaa
