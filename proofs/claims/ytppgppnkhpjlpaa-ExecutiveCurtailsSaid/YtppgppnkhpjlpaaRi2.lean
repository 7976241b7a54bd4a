/- Walks, printed by program. -/
import Derived.Test.YtppgppnkhpjlpaaRi
namespace Go.Proofs.Ytppgppnkhpjlpaa
open Go.Vg Go.RowKit
set_option linter.unusedVariables false

open Go.Vm
set_option maxHeartbeats 1000000 in
theorem r03_floor {w : World} {sx : Bool} {Dx Ex : Nat → TypeId → Prop} {vx ux : Value} {x dx : List Nat} (hx : Sg (gN .u32) Dx w vx x) (lmx : Lm x) (lnx : x.length ≤ 17179869184) (hdx : Sg (gN .u32) Ex w ux dx) (lmdx : Lm dx) (lndx : dx.length ≤ 17179869184) {qx : Rat} (ex : ratOf sx (val x) (val dx) = qx) :
    Calls Try.prog 31 #[(.agg #[(.bool (sx)), vx, ux])] w fun e w' => ∃ v, e = .returned v ∧ (∃ vr, v = .agg #[.bool (decide (qx.floor < 0)), vr] ∧ Sg (gN .u32) (fun b T => w.heap.size ≤ b ∧ T = 52) w' vr (digs qx.floor.natAbs) ∧ (digs qx.floor.natAbs).length ≤ x.length + 3) ∧ Ext w w' := by
  have hE : Below w.heap.size w w := Below.refl _ _
  have hlqx := rl_of lmx lmdx ex
  have hdqx := den_one qx
  refine calls_of (n := 17) (rs := [.cell 2 40]) Try.func31 rfl rfl rfl (Nat.le_of_ble_eq_true rfl) ?_
  refine wset fun F0 hF0 => ?_
  refine wseq ?_
  refine wregion ?_
  refine RL.run rfl rfl (by decide) (h_box (vv := (.agg #[(.bool (sx)), vx, ux])) (cs := [(.bool (sx)), vx, ux]) (hF0 0) rfl) ?_
  rintro _ w1 ⟨b2, rfl, hs5, hb4, he3⟩
  have ge_b2 : w.heap.size ≤ b2 := by rw [hs5]; exact hE.size
  replace hE := Below.ext hE hE.size he3
  refine RL.run rfl rfl (by decide) (h_alloc (cs := [(.bool false), (.slice none 0 0)]) ty40 rfl) ?_
  rintro _ w6 ⟨b7, rfl, hs10, hb9, he8⟩
  have lt_b2_b7 := Nat.lt_of_lt_of_eq hb4.lt hs10.symm
  have ge_b7 : w.heap.size ≤ b7 := by rw [hs10]; exact hE.size
  replace hE := Below.ext hE hE.size he8
  refine RL.nil ?_
  refine wset fun F11 hF12 => ?_
  refine wcut (fun fl wl => ∃ b41 : Nat, ∃ b47 : Nat, ∃ vn19 : Value, ∃ vd21 : Value, ∃ vr29 : Value, ∃ vq34 : Value, ∃ vr37 : Value, Off [3, 4, 5, 6, 7, 8, 9, 10, 11, 12, 13, 14, 15] F11 fl ∧ fl 3 = (.pointer (some ⟨b41, 0, none⟩)) ∧ (w.heap.size ≤ b41) ∧ (b7 < b41) ∧ (w.heap.size ≤ b47) ∧ (b7 < b47) ∧ (b41 ≠ b47) ∧ (Sg (gN .u32) Dx wl vx x) ∧ (Sg (gN .u32) Ex wl ux dx) ∧ (Below w.heap.size w wl) ∧ (Bk wl b2 42 [(.bool (sx)), vx, ux]) ∧ (Bk wl b7 40 [(.bool false), (.slice none 0 0)]) ∧ (Sg (gN .u32) (fun b T => w.heap.size ≤ b ∧ T = 52) wl vn19 (digs qx.num.natAbs)) ∧ (Sg (gN .u32) (fun b T => w.heap.size ≤ b ∧ T = 52) wl vd21 (digs qx.den)) ∧ (Sg (gN .u32) (fun b T => w.heap.size ≤ b ∧ T = 52) wl vr29 (digs ((qx.den : Nat) : Int).natAbs)) ∧ (Sg (gN .u32) (fun b T => w.heap.size ≤ b ∧ T = 52) wl vq34 (digs (qx.num / ((qx.den : Nat) : Int)).natAbs)) ∧ (Sg (gN .u32) (fun b T => w.heap.size ≤ b ∧ T = 52) wl vr37 (digs (modI qx.num ((qx.den : Nat) : Int)).natAbs)) ∧ (Bk wl b41 40 [(.bool (decide ((qx.num / ((qx.den : Nat) : Int)) < 0))), vq34]) ∧ (Bk wl b47 40 [(.bool (decide ((modI qx.num ((qx.den : Nat) : Int)) < 0))), vr37])) ?_ ?_
  · have hoff59 := Off.refl [3, 4, 5, 6, 7, 8, 9, 10, 11, 12, 13, 14, 15] F11
    refine wdraw mixed fun w60 he61 => ?_
    replace hE := Below.ext hE hE.size he61
    replace hb4 := hb4.ext (Ext.trans he8 he61)
    have hc62 := hb4.cells (o := 0) (cs := [(.bool (sx)), vx, ux]) rfl
    refine RA.rd 0 rfl (by kernel_rfl) rfl rfl rfl (by decide) (Ext.refl _) (fun u hu => r_loada (o := 0) (cs := [(.bool (sx)), vx, ux]) Try.underlying42 ag42 ty42 (hF12 1) (fun j v hj => cell_ext hu (hc62 j v hj))) ?_
    have hc63 := hb4.cells (o := 0) (cs := [(.bool (sx)), vx, ux]) rfl
    refine RA.rd 3 rfl (by kernel_rfl) rfl rfl rfl (by decide) (Ext.refl _) (fun u hu => r_loada (o := 0) (cs := [(.bool (sx)), vx, ux]) Try.underlying42 ag42 ty42 (hF12 1) (fun j v hj => cell_ext hu (hc63 j v hj))) ?_
    refine RA.all [1, 10, 11] (by kernel_rfl) rfl ?_
    have hm72 := Ext.trans he3 (Ext.trans he8 he61)
    replace hx := hx.tr (Sm.ext hm72)
    replace hdx := hdx.tr (Sm.ext hm72)
    refine RS.call rfl rfl rfl (by decide) (r_call (vl := [(.agg #[(.bool (sx)), vx, ux])]) ent38 rfl) (r03_norm hx (by assumption) (by first | omega | simp) hdx (by assumption) (by first | omega | simp) (show ratOf sx (val x) (val dx) = qx from ex)) ?_ ?_
    · rintro _ w64 ⟨⟨vn66, vd68, rfl, hn67, hd69, hl70, hl71⟩, he65⟩
      refine ⟨.inr (.inr he65), RA.more (S' := fun u => Ext _ u) (fun u hu => Ext.trans he65 hu) ?_⟩
      have hlv73 := den_one qx
      replace hn67 := hn67.mono (D' := fun b T => w.heap.size ≤ b ∧ T = 52) (fun b T h => ⟨Nat.le_trans hE.size h.1, h.2⟩)
      replace hd69 := hd69.mono (D' := fun b T => w.heap.size ≤ b ∧ T = 52) (fun b T h => ⟨Nat.le_trans hE.size h.1, h.2⟩)
      replace hE := Below.ext hE hE.size he65
      refine RA.take 2 rfl (by kernel_rfl) rfl rfl (by decide) (fun _ => r_fielda Try.underlying42 rfl Try.underlying40 ag40 ty40 rfl) ?_
      refine RA.all [4, 10, 11] (by kernel_rfl) rfl ?_
      replace hx := hx.tr (Sm.ext he65)
      replace hdx := hdx.tr (Sm.ext he65)
      refine RS.call rfl rfl rfl (by decide) (r_call (vl := [(.agg #[(.bool (sx)), vx, ux])]) ent39 rfl) (r03_den hx (by assumption) (by first | omega | simp) hdx (by assumption) (by first | omega | simp) (show ratOf sx (val x) (val dx) = qx from ex)) ?_ ?_
      · rintro _ w74 ⟨⟨vr76, rfl, hr77, hl78⟩, he75⟩
        refine ⟨.inr (.inr he75), RA.more (S' := fun u => Ext _ u) (fun u hu => Ext.trans he75 hu) ?_⟩
        replace hr77 := hr77.mono (D' := fun b T => w.heap.size ≤ b ∧ T = 52) (fun b T h => ⟨Nat.le_trans hE.size h.1, h.2⟩)
        replace hE := Below.ext hE hE.size he75
        refine RA.all [5, 10, 11] (by kernel_rfl) rfl ?_
        replace hn67 := hn67.tr (Sm.ext he75)
        refine RS.call rfl rfl rfl (by decide) (r_call (vl := [(.agg #[(.bool (decide (qx.num < 0))), vn66]), (.agg #[(.bool (decide (((qx.den : Nat) : Int) < 0))), vr76])]) ent44 rfl) (r02_divmod hn67 (digs_lm _) (by first | omega | simp) (sg_canon _) hr77 (digs_lm _) (by first | omega | simp) (sg_canon _)) ?_ ?_
        · rintro _ w79 ⟨⟨vq81, vr84, rfl, hq82, hl83, hr85, hl86⟩, he80⟩
          refine ⟨.inr (.inr he80), RA.more (S' := fun u => Ext _ u) (fun u hu => Ext.trans he80 hu) ?_⟩
          replace hq82 := hq82.mono (D' := fun b T => w.heap.size ≤ b ∧ T = 52) (fun b T h => ⟨Nat.le_trans hE.size h.1, h.2⟩)
          replace hr85 := hr85.mono (D' := fun b T => w.heap.size ≤ b ∧ T = 52) (fun b T h => ⟨Nat.le_trans hE.size h.1, h.2⟩)
          replace hE := Below.ext hE hE.size he80
          refine RA.take 6 rfl (by kernel_rfl) rfl rfl (by decide) (fun _ => r_move_as (v := (.tuple #[(.agg #[(.bool (decide ((qx.num / ((qx.den : Nat) : Int)) < 0))), vq81]), (.agg #[(.bool (decide ((modI qx.num ((qx.den : Nat) : Int)) < 0))), vr84]), (.bool (decide (((qx.den : Nat) : Int) ≠ 0)))])) rfl) ?_
          refine RA.take 7 rfl (by kernel_rfl) rfl rfl (by decide) (fun _ => r_extract (v := (.agg #[(.bool (decide ((qx.num / ((qx.den : Nat) : Int)) < 0))), vq81])) rfl rfl) ?_
          refine RA.take 8 rfl (by kernel_rfl) rfl rfl (by decide) (fun _ => r_extract (v := (.agg #[(.bool (decide ((modI qx.num ((qx.den : Nat) : Int)) < 0))), vr84])) rfl rfl) ?_
          refine RA.take 9 rfl (by kernel_rfl) rfl rfl (by decide) (fun _ => r_extract (v := (.bool (decide (((qx.den : Nat) : Int) ≠ 0)))) rfl rfl) ?_
          refine RA.all [10, 11] (by kernel_rfl) rfl ?_
          refine RS.run rfl rfl rfl (by decide) (h_alloc (cs := [(.bool false), (.slice none 0 0)]) ty40 rfl) ?_ ?_
          · rintro _ w87 ⟨b88, rfl, hs91, hb90, he89⟩
            refine ⟨.inr (.inr he89), RA.more (S' := fun u => Ext _ u) (fun u hu => Ext.trans he89 hu) ?_⟩
            have hm92 := Ext.trans he61 (Ext.trans he65 (Ext.trans he75 he80))
            replace hb9 := hb9.ext hm92
            have lt_b7_b88 := Nat.lt_of_lt_of_eq hb9.lt hs91.symm
            have ge_b88 : w.heap.size ≤ b88 := by rw [hs91]; exact hE.size
            replace hE := Below.ext hE hE.size he89
            refine RA.all [11] (by kernel_rfl) rfl ?_
            refine RS.run rfl rfl rfl (by decide) (h_alloc (cs := [(.bool false), (.slice none 0 0)]) ty40 rfl) ?_ RS.nil
            rintro _ w93 ⟨b94, rfl, hs97, hb96, he95⟩
            refine ⟨.inr (.inr he95), RA.more (S' := fun u => Ext _ u) (fun u hu => Ext.trans he95 hu) ?_⟩
            have lt_b88_b94 := Nat.lt_of_lt_of_eq hb90.lt hs97.symm
            have ge_b94 : w.heap.size ≤ b94 := by rw [hs97]; exact hE.size
            replace hE := Below.ext hE hE.size he95
            refine RA.all [12] (by kernel_rfl) rfl ?_
            replace hb90 := hb90.ext he95
            refine RS.runs rfl rfl rfl (h_store (vv := (.agg #[(.bool (decide ((qx.num / ((qx.den : Nat) : Int)) < 0))), vq81])) (cs := [(.bool (decide ((qx.num / ((qx.den : Nat) : Int)) < 0))), vq81]) (o := 0) ty40 rfl rfl rfl rfl (one_cons rfl (one_cons hq82.one one_nil)) hb90 (Nat.le_of_ble_eq_true rfl)) ?_ RS.nil
            rintro w98 ⟨hn99, hx100, hz101⟩
            refine ⟨.inr (.inl (by kernel_rfl)), ?_⟩
            replace hE := Below.exc hE hE.size hx100 ge_b88
            have nb_hx100 := (Nb.of hb90 (nu_cons rfl (nu_cons rfl nu_nil)))
            replace hb90 : Bk w98 b88 40 [(.bool (decide ((qx.num / ((qx.den : Nat) : Int)) < 0))), vq81] := hn99
            refine RA.all [13] (by kernel_rfl) rfl ?_
            replace hb96 := hb96.exc hx100 (Nat.ne_of_gt lt_b88_b94)
            refine RS.runs rfl rfl rfl (h_store (vv := (.agg #[(.bool (decide ((modI qx.num ((qx.den : Nat) : Int)) < 0))), vr84])) (cs := [(.bool (decide ((modI qx.num ((qx.den : Nat) : Int)) < 0))), vr84]) (o := 0) ty40 rfl rfl rfl rfl (one_cons rfl (one_cons hr85.one one_nil)) hb96 (Nat.le_of_ble_eq_true rfl)) ?_ RS.nil
            rintro w102 ⟨hn103, hx104, hz105⟩
            refine ⟨.inr (.inl (by kernel_rfl)), ?_⟩
            replace hE := Below.exc hE hE.size hx104 ge_b94
            have nb_hx104 := (Nb.of hb96 (nu_cons rfl (nu_cons rfl nu_nil)))
            replace hb96 : Bk w102 b94 40 [(.bool (decide ((modI qx.num ((qx.den : Nat) : Int)) < 0))), vr84] := hn103
            refine RA.take 14 rfl (by kernel_rfl) rfl rfl (by decide) (fun _ => r_assign_as (v := (.bool (decide (((qx.den : Nat) : Int) ≠ 0)))) rfl) ?_
            refine RA.done (by kernel_rfl) ?_
            have hm106 := Ext.trans he75 (Ext.trans he80 (Ext.trans he89 he95))
            replace hx := ((hx.tr (Sm.ext hm106)).apn hx100 nb_hx100).apn hx104 nb_hx104
            replace hdx := ((hdx.tr (Sm.ext hm106)).apn hx100 nb_hx100).apn hx104 nb_hx104
            have hm107 := Ext.trans he65 (Ext.trans he75 (Ext.trans he80 (Ext.trans he89 he95)))
            replace hb4 := ((hb4.ext hm107).exc hx100 (Nat.ne_of_lt (Nat.lt_trans lt_b2_b7 lt_b7_b88))).exc hx104 (Nat.ne_of_lt (Nat.lt_trans lt_b2_b7 (Nat.lt_trans lt_b7_b88 lt_b88_b94)))
            replace hb9 := ((hb9.ext (Ext.trans he89 he95)).exc hx100 (Nat.ne_of_lt lt_b7_b88)).exc hx104 (Nat.ne_of_lt (Nat.lt_trans lt_b7_b88 lt_b88_b94))
            have hm108 := Ext.trans he80 (Ext.trans he89 he95)
            replace hn67 := ((hn67.tr (Sm.ext hm108)).apn hx100 nb_hx100).apn hx104 nb_hx104
            replace hd69 := ((hd69.tr (Sm.ext hm106)).apn hx100 nb_hx100).apn hx104 nb_hx104
            replace hr77 := ((hr77.tr (Sm.ext hm108)).apn hx100 nb_hx100).apn hx104 nb_hx104
            replace hq82 := ((hq82.tr (Sm.ext (Ext.trans he89 he95))).apn hx100 nb_hx100).apn hx104 nb_hx104
            replace hr85 := ((hr85.tr (Sm.ext (Ext.trans he89 he95))).apn hx100 nb_hx100).apn hx104 nb_hx104
            replace hb90 := hb90.exc hx104 (Nat.ne_of_lt lt_b88_b94)
            refine ⟨b88, b94, vn66, vd68, vr76, vq81, vr84, ?_, ?_, ?_, ?_, ?_, ?_, ?_, ?_, ?_, ?_, ?_, ?_, ?_, ?_, ?_, ?_, ?_, ?_, ?_⟩
            · exact (by repeat (first | exact hoff59 | refine Off.st ?_ (by decide) _))
            · exact rfl
            · exact ge_b88
            · exact lt_b7_b88
            · exact ge_b94
            · exact (Nat.lt_trans lt_b7_b88 lt_b88_b94)
            · exact (Nat.ne_of_lt lt_b88_b94)
            · exact hx
            · exact hdx
            · exact hE
            · exact hb4
            · exact hb9
            · exact hn67
            · exact hd69
            · exact hr77
            · exact hq82
            · exact hr85
            · exact hb90
            · exact hb96
          · refine RS.run rfl rfl rfl (by decide) (h_alloc (cs := [(.bool false), (.slice none 0 0)]) ty40 rfl) ?_ RS.nil
            rintro _ w109 ⟨b110, rfl, hs113, hb112, he111⟩
            refine ⟨.inr (.inr he111), RA.more (S' := fun u => Ext _ u) (fun u hu => Ext.trans he111 hu) ?_⟩
            have hm114 := Ext.trans he61 (Ext.trans he65 (Ext.trans he75 he80))
            replace hb9 := hb9.ext hm114
            have lt_b7_b110 := Nat.lt_of_lt_of_eq hb9.lt hs113.symm
            have ge_b110 : w.heap.size ≤ b110 := by rw [hs113]; exact hE.size
            replace hE := Below.ext hE hE.size he111
            refine RA.all [10] (by kernel_rfl) rfl ?_
            refine RS.run rfl rfl rfl (by decide) (h_alloc (cs := [(.bool false), (.slice none 0 0)]) ty40 rfl) ?_ RS.nil
            rintro _ w115 ⟨b116, rfl, hs119, hb118, he117⟩
            refine ⟨.inr (.inr he117), RA.more (S' := fun u => Ext _ u) (fun u hu => Ext.trans he117 hu) ?_⟩
            have lt_b110_b116 := Nat.lt_of_lt_of_eq hb112.lt hs119.symm
            have ge_b116 : w.heap.size ≤ b116 := by rw [hs119]; exact hE.size
            replace hE := Below.ext hE hE.size he117
            refine RA.all [12] (by kernel_rfl) rfl ?_
            refine RS.runs rfl rfl rfl (h_store (vv := (.agg #[(.bool (decide ((qx.num / ((qx.den : Nat) : Int)) < 0))), vq81])) (cs := [(.bool (decide ((qx.num / ((qx.den : Nat) : Int)) < 0))), vq81]) (o := 0) ty40 rfl rfl rfl rfl (one_cons rfl (one_cons hq82.one one_nil)) hb118 (Nat.le_of_ble_eq_true rfl)) ?_ RS.nil
            rintro w120 ⟨hn121, hx122, hz123⟩
            refine ⟨.inr (.inl (by kernel_rfl)), ?_⟩
            replace hE := Below.exc hE hE.size hx122 ge_b116
            have nb_hx122 := (Nb.of hb118 (nu_cons rfl (nu_cons rfl nu_nil)))
            replace hb118 : Bk w120 b116 40 [(.bool (decide ((qx.num / ((qx.den : Nat) : Int)) < 0))), vq81] := hn121
            refine RA.all [13] (by kernel_rfl) rfl ?_
            replace hb112 := (hb112.ext he117).exc hx122 (Nat.ne_of_lt lt_b110_b116)
            refine RS.runs rfl rfl rfl (h_store (vv := (.agg #[(.bool (decide ((modI qx.num ((qx.den : Nat) : Int)) < 0))), vr84])) (cs := [(.bool (decide ((modI qx.num ((qx.den : Nat) : Int)) < 0))), vr84]) (o := 0) ty40 rfl rfl rfl rfl (one_cons rfl (one_cons hr85.one one_nil)) hb112 (Nat.le_of_ble_eq_true rfl)) ?_ RS.nil
            rintro w124 ⟨hn125, hx126, hz127⟩
            refine ⟨.inr (.inl (by kernel_rfl)), ?_⟩
            replace hE := Below.exc hE hE.size hx126 ge_b110
            have nb_hx126 := (Nb.of hb112 (nu_cons rfl (nu_cons rfl nu_nil)))
            replace hb112 : Bk w124 b110 40 [(.bool (decide ((modI qx.num ((qx.den : Nat) : Int)) < 0))), vr84] := hn125
            refine RA.take 14 rfl (by kernel_rfl) rfl rfl (by decide) (fun _ => r_assign_as (v := (.bool (decide (((qx.den : Nat) : Int) ≠ 0)))) rfl) ?_
            refine RA.done (by kernel_rfl) ?_
            have hm128 := Ext.trans he75 (Ext.trans he80 (Ext.trans he111 he117))
            replace hx := ((hx.tr (Sm.ext hm128)).apn hx122 nb_hx122).apn hx126 nb_hx126
            replace hdx := ((hdx.tr (Sm.ext hm128)).apn hx122 nb_hx122).apn hx126 nb_hx126
            have hm129 := Ext.trans he65 (Ext.trans he75 (Ext.trans he80 (Ext.trans he111 he117)))
            replace hb4 := ((hb4.ext hm129).exc hx122 (Nat.ne_of_lt (Nat.lt_trans lt_b2_b7 (Nat.lt_trans lt_b7_b110 lt_b110_b116)))).exc hx126 (Nat.ne_of_lt (Nat.lt_trans lt_b2_b7 lt_b7_b110))
            replace hb9 := ((hb9.ext (Ext.trans he111 he117)).exc hx122 (Nat.ne_of_lt (Nat.lt_trans lt_b7_b110 lt_b110_b116))).exc hx126 (Nat.ne_of_lt lt_b7_b110)
            have hm130 := Ext.trans he80 (Ext.trans he111 he117)
            replace hn67 := ((hn67.tr (Sm.ext hm130)).apn hx122 nb_hx122).apn hx126 nb_hx126
            replace hd69 := ((hd69.tr (Sm.ext hm128)).apn hx122 nb_hx122).apn hx126 nb_hx126
            replace hr77 := ((hr77.tr (Sm.ext hm130)).apn hx122 nb_hx122).apn hx126 nb_hx126
            replace hq82 := ((hq82.tr (Sm.ext (Ext.trans he111 he117))).apn hx122 nb_hx122).apn hx126 nb_hx126
            replace hr85 := ((hr85.tr (Sm.ext (Ext.trans he111 he117))).apn hx122 nb_hx122).apn hx126 nb_hx126
            replace hb118 := hb118.exc hx126 (Nat.ne_of_gt lt_b110_b116)
            refine ⟨b116, b110, vn66, vd68, vr76, vq81, vr84, ?_, ?_, ?_, ?_, ?_, ?_, ?_, ?_, ?_, ?_, ?_, ?_, ?_, ?_, ?_, ?_, ?_, ?_, ?_⟩
            · exact (by repeat (first | exact hoff59 | refine Off.st ?_ (by decide) _))
            · exact rfl
            · exact ge_b116
            · exact (Nat.lt_trans lt_b7_b110 lt_b110_b116)
            · exact ge_b110
            · exact lt_b7_b110
            · exact (Nat.ne_of_gt lt_b110_b116)
            · exact hx
            · exact hdx
            · exact hE
            · exact hb4
            · exact hb9
            · exact hn67
            · exact hd69
            · exact hr77
            · exact hq82
            · exact hr85
            · exact hb118
            · exact hb112
        · refine RS.run rfl rfl rfl (by decide) (h_alloc (cs := [(.bool false), (.slice none 0 0)]) ty40 rfl) ?_ ?_
          · rintro _ w131 ⟨b132, rfl, hs135, hb134, he133⟩
            refine ⟨.inr (.inr he133), RA.more (S' := fun u => Ext _ u) (fun u hu => Ext.trans he133 hu) ?_⟩
            have hm136 := Ext.trans he61 (Ext.trans he65 he75)
            replace hb9 := hb9.ext hm136
            have lt_b7_b132 := Nat.lt_of_lt_of_eq hb9.lt hs135.symm
            have ge_b132 : w.heap.size ≤ b132 := by rw [hs135]; exact hE.size
            replace hE := Below.ext hE hE.size he133
            refine RA.all [5, 11] (by kernel_rfl) rfl ?_
            replace hn67 := hn67.tr (Sm.ext he133)
            replace hr77 := hr77.tr (Sm.ext he133)
            refine RS.call rfl rfl rfl (by decide) (r_call (vl := [(.agg #[(.bool (decide (qx.num < 0))), vn66]), (.agg #[(.bool (decide (((qx.den : Nat) : Int) < 0))), vr76])]) ent44 rfl) (r02_divmod hn67 (digs_lm _) (by first | omega | simp) (sg_canon _) hr77 (digs_lm _) (by first | omega | simp) (sg_canon _)) ?_ ?_
            · rintro _ w137 ⟨⟨vq139, vr142, rfl, hq140, hl141, hr143, hl144⟩, he138⟩
              refine ⟨.inr (.inr he138), RA.more (S' := fun u => Ext _ u) (fun u hu => Ext.trans he138 hu) ?_⟩
              replace hq140 := hq140.mono (D' := fun b T => w.heap.size ≤ b ∧ T = 52) (fun b T h => ⟨Nat.le_trans hE.size h.1, h.2⟩)
              replace hr143 := hr143.mono (D' := fun b T => w.heap.size ≤ b ∧ T = 52) (fun b T h => ⟨Nat.le_trans hE.size h.1, h.2⟩)
              replace hE := Below.ext hE hE.size he138
              refine RA.take 6 rfl (by kernel_rfl) rfl rfl (by decide) (fun _ => r_move_as (v := (.tuple #[(.agg #[(.bool (decide ((qx.num / ((qx.den : Nat) : Int)) < 0))), vq139]), (.agg #[(.bool (decide ((modI qx.num ((qx.den : Nat) : Int)) < 0))), vr142]), (.bool (decide (((qx.den : Nat) : Int) ≠ 0)))])) rfl) ?_
              refine RA.take 7 rfl (by kernel_rfl) rfl rfl (by decide) (fun _ => r_extract (v := (.agg #[(.bool (decide ((qx.num / ((qx.den : Nat) : Int)) < 0))), vq139])) rfl rfl) ?_
              refine RA.take 8 rfl (by kernel_rfl) rfl rfl (by decide) (fun _ => r_extract (v := (.agg #[(.bool (decide ((modI qx.num ((qx.den : Nat) : Int)) < 0))), vr142])) rfl rfl) ?_
              refine RA.take 9 rfl (by kernel_rfl) rfl rfl (by decide) (fun _ => r_extract (v := (.bool (decide (((qx.den : Nat) : Int) ≠ 0)))) rfl rfl) ?_
              refine RA.all [11] (by kernel_rfl) rfl ?_
              refine RS.run rfl rfl rfl (by decide) (h_alloc (cs := [(.bool false), (.slice none 0 0)]) ty40 rfl) ?_ RS.nil
              rintro _ w145 ⟨b146, rfl, hs149, hb148, he147⟩
              refine ⟨.inr (.inr he147), RA.more (S' := fun u => Ext _ u) (fun u hu => Ext.trans he147 hu) ?_⟩
              replace hb134 := hb134.ext he138
              have lt_b132_b146 := Nat.lt_of_lt_of_eq hb134.lt hs149.symm
              have ge_b146 : w.heap.size ≤ b146 := by rw [hs149]; exact hE.size
              replace hE := Below.ext hE hE.size he147
              refine RA.all [12] (by kernel_rfl) rfl ?_
              replace hb134 := hb134.ext he147
              refine RS.runs rfl rfl rfl (h_store (vv := (.agg #[(.bool (decide ((qx.num / ((qx.den : Nat) : Int)) < 0))), vq139])) (cs := [(.bool (decide ((qx.num / ((qx.den : Nat) : Int)) < 0))), vq139]) (o := 0) ty40 rfl rfl rfl rfl (one_cons rfl (one_cons hq140.one one_nil)) hb134 (Nat.le_of_ble_eq_true rfl)) ?_ RS.nil
              rintro w150 ⟨hn151, hx152, hz153⟩
              refine ⟨.inr (.inl (by kernel_rfl)), ?_⟩
              replace hE := Below.exc hE hE.size hx152 ge_b132
              have nb_hx152 := (Nb.of hb134 (nu_cons rfl (nu_cons rfl nu_nil)))
              replace hb134 : Bk w150 b132 40 [(.bool (decide ((qx.num / ((qx.den : Nat) : Int)) < 0))), vq139] := hn151
              refine RA.all [13] (by kernel_rfl) rfl ?_
              replace hb148 := hb148.exc hx152 (Nat.ne_of_gt lt_b132_b146)
              refine RS.runs rfl rfl rfl (h_store (vv := (.agg #[(.bool (decide ((modI qx.num ((qx.den : Nat) : Int)) < 0))), vr142])) (cs := [(.bool (decide ((modI qx.num ((qx.den : Nat) : Int)) < 0))), vr142]) (o := 0) ty40 rfl rfl rfl rfl (one_cons rfl (one_cons hr143.one one_nil)) hb148 (Nat.le_of_ble_eq_true rfl)) ?_ RS.nil
              rintro w154 ⟨hn155, hx156, hz157⟩
              refine ⟨.inr (.inl (by kernel_rfl)), ?_⟩
              replace hE := Below.exc hE hE.size hx156 ge_b146
              have nb_hx156 := (Nb.of hb148 (nu_cons rfl (nu_cons rfl nu_nil)))
              replace hb148 : Bk w154 b146 40 [(.bool (decide ((modI qx.num ((qx.den : Nat) : Int)) < 0))), vr142] := hn155
              refine RA.take 14 rfl (by kernel_rfl) rfl rfl (by decide) (fun _ => r_assign_as (v := (.bool (decide (((qx.den : Nat) : Int) ≠ 0)))) rfl) ?_
              refine RA.done (by kernel_rfl) ?_
              have hm158 := Ext.trans he75 (Ext.trans he133 (Ext.trans he138 he147))
              replace hx := ((hx.tr (Sm.ext hm158)).apn hx152 nb_hx152).apn hx156 nb_hx156
              replace hdx := ((hdx.tr (Sm.ext hm158)).apn hx152 nb_hx152).apn hx156 nb_hx156
              have hm159 := Ext.trans he65 (Ext.trans he75 (Ext.trans he133 (Ext.trans he138 he147)))
              replace hb4 := ((hb4.ext hm159).exc hx152 (Nat.ne_of_lt (Nat.lt_trans lt_b2_b7 lt_b7_b132))).exc hx156 (Nat.ne_of_lt (Nat.lt_trans lt_b2_b7 (Nat.lt_trans lt_b7_b132 lt_b132_b146)))
              have hm160 := Ext.trans he133 (Ext.trans he138 he147)
              replace hb9 := ((hb9.ext hm160).exc hx152 (Nat.ne_of_lt lt_b7_b132)).exc hx156 (Nat.ne_of_lt (Nat.lt_trans lt_b7_b132 lt_b132_b146))
              replace hn67 := ((hn67.tr (Sm.ext (Ext.trans he138 he147))).apn hx152 nb_hx152).apn hx156 nb_hx156
              replace hd69 := ((hd69.tr (Sm.ext hm158)).apn hx152 nb_hx152).apn hx156 nb_hx156
              replace hr77 := ((hr77.tr (Sm.ext (Ext.trans he138 he147))).apn hx152 nb_hx152).apn hx156 nb_hx156
              replace hq140 := ((hq140.tr (Sm.ext he147)).apn hx152 nb_hx152).apn hx156 nb_hx156
              replace hr143 := ((hr143.tr (Sm.ext he147)).apn hx152 nb_hx152).apn hx156 nb_hx156
              replace hb134 := hb134.exc hx156 (Nat.ne_of_lt lt_b132_b146)
              refine ⟨b132, b146, vn66, vd68, vr76, vq139, vr142, ?_, ?_, ?_, ?_, ?_, ?_, ?_, ?_, ?_, ?_, ?_, ?_, ?_, ?_, ?_, ?_, ?_, ?_, ?_⟩
              · exact (by repeat (first | exact hoff59 | refine Off.st ?_ (by decide) _))
              · exact rfl
              · exact ge_b132
              · exact lt_b7_b132
              · exact ge_b146
              · exact (Nat.lt_trans lt_b7_b132 lt_b132_b146)
              · exact (Nat.ne_of_lt lt_b132_b146)
              · exact hx
              · exact hdx
              · exact hE
              · exact hb4
              · exact hb9
              · exact hn67
              · exact hd69
              · exact hr77
              · exact hq140
              · exact hr143
              · exact hb134
              · exact hb148
            · refine RS.run rfl rfl rfl (by decide) (h_alloc (cs := [(.bool false), (.slice none 0 0)]) ty40 rfl) ?_ RS.nil
              rintro _ w161 ⟨b162, rfl, hs165, hb164, he163⟩
              refine ⟨.inr (.inr he163), RA.more (S' := fun u => Ext _ u) (fun u hu => Ext.trans he163 hu) ?_⟩
              have lt_b132_b162 := Nat.lt_of_lt_of_eq hb134.lt hs165.symm
              have ge_b162 : w.heap.size ≤ b162 := by rw [hs165]; exact hE.size
              replace hE := Below.ext hE hE.size he163
              refine RA.all [5] (by kernel_rfl) rfl ?_
              replace hn67 := hn67.tr (Sm.ext he163)
              replace hr77 := hr77.tr (Sm.ext he163)
              refine RS.call rfl rfl rfl (by decide) (r_call (vl := [(.agg #[(.bool (decide (qx.num < 0))), vn66]), (.agg #[(.bool (decide (((qx.den : Nat) : Int) < 0))), vr76])]) ent44 rfl) (r02_divmod hn67 (digs_lm _) (by first | omega | simp) (sg_canon _) hr77 (digs_lm _) (by first | omega | simp) (sg_canon _)) ?_ RS.nil
              rintro _ w166 ⟨⟨vq168, vr171, rfl, hq169, hl170, hr172, hl173⟩, he167⟩
              refine ⟨.inr (.inr he167), RA.more (S' := fun u => Ext _ u) (fun u hu => Ext.trans he167 hu) ?_⟩
              replace hq169 := hq169.mono (D' := fun b T => w.heap.size ≤ b ∧ T = 52) (fun b T h => ⟨Nat.le_trans hE.size h.1, h.2⟩)
              replace hr172 := hr172.mono (D' := fun b T => w.heap.size ≤ b ∧ T = 52) (fun b T h => ⟨Nat.le_trans hE.size h.1, h.2⟩)
              replace hE := Below.ext hE hE.size he167
              refine RA.take 6 rfl (by kernel_rfl) rfl rfl (by decide) (fun _ => r_move_as (v := (.tuple #[(.agg #[(.bool (decide ((qx.num / ((qx.den : Nat) : Int)) < 0))), vq168]), (.agg #[(.bool (decide ((modI qx.num ((qx.den : Nat) : Int)) < 0))), vr171]), (.bool (decide (((qx.den : Nat) : Int) ≠ 0)))])) rfl) ?_
              refine RA.take 7 rfl (by kernel_rfl) rfl rfl (by decide) (fun _ => r_extract (v := (.agg #[(.bool (decide ((qx.num / ((qx.den : Nat) : Int)) < 0))), vq168])) rfl rfl) ?_
              refine RA.take 8 rfl (by kernel_rfl) rfl rfl (by decide) (fun _ => r_extract (v := (.agg #[(.bool (decide ((modI qx.num ((qx.den : Nat) : Int)) < 0))), vr171])) rfl rfl) ?_
              refine RA.take 9 rfl (by kernel_rfl) rfl rfl (by decide) (fun _ => r_extract (v := (.bool (decide (((qx.den : Nat) : Int) ≠ 0)))) rfl rfl) ?_
              refine RA.all [12] (by kernel_rfl) rfl ?_
              replace hb134 := hb134.ext (Ext.trans he163 he167)
              refine RS.runs rfl rfl rfl (h_store (vv := (.agg #[(.bool (decide ((qx.num / ((qx.den : Nat) : Int)) < 0))), vq168])) (cs := [(.bool (decide ((qx.num / ((qx.den : Nat) : Int)) < 0))), vq168]) (o := 0) ty40 rfl rfl rfl rfl (one_cons rfl (one_cons hq169.one one_nil)) hb134 (Nat.le_of_ble_eq_true rfl)) ?_ RS.nil
              rintro w174 ⟨hn175, hx176, hz177⟩
              refine ⟨.inr (.inl (by kernel_rfl)), ?_⟩
              replace hE := Below.exc hE hE.size hx176 ge_b132
              have nb_hx176 := (Nb.of hb134 (nu_cons rfl (nu_cons rfl nu_nil)))
              replace hb134 : Bk w174 b132 40 [(.bool (decide ((qx.num / ((qx.den : Nat) : Int)) < 0))), vq168] := hn175
              refine RA.all [13] (by kernel_rfl) rfl ?_
              replace hb164 := (hb164.ext he167).exc hx176 (Nat.ne_of_gt lt_b132_b162)
              refine RS.runs rfl rfl rfl (h_store (vv := (.agg #[(.bool (decide ((modI qx.num ((qx.den : Nat) : Int)) < 0))), vr171])) (cs := [(.bool (decide ((modI qx.num ((qx.den : Nat) : Int)) < 0))), vr171]) (o := 0) ty40 rfl rfl rfl rfl (one_cons rfl (one_cons hr172.one one_nil)) hb164 (Nat.le_of_ble_eq_true rfl)) ?_ RS.nil
              rintro w178 ⟨hn179, hx180, hz181⟩
              refine ⟨.inr (.inl (by kernel_rfl)), ?_⟩
              replace hE := Below.exc hE hE.size hx180 ge_b162
              have nb_hx180 := (Nb.of hb164 (nu_cons rfl (nu_cons rfl nu_nil)))
              replace hb164 : Bk w178 b162 40 [(.bool (decide ((modI qx.num ((qx.den : Nat) : Int)) < 0))), vr171] := hn179
              refine RA.take 14 rfl (by kernel_rfl) rfl rfl (by decide) (fun _ => r_assign_as (v := (.bool (decide (((qx.den : Nat) : Int) ≠ 0)))) rfl) ?_
              refine RA.done (by kernel_rfl) ?_
              have hm182 := Ext.trans he75 (Ext.trans he133 (Ext.trans he163 he167))
              replace hx := ((hx.tr (Sm.ext hm182)).apn hx176 nb_hx176).apn hx180 nb_hx180
              replace hdx := ((hdx.tr (Sm.ext hm182)).apn hx176 nb_hx176).apn hx180 nb_hx180
              have hm183 := Ext.trans he65 (Ext.trans he75 (Ext.trans he133 (Ext.trans he163 he167)))
              replace hb4 := ((hb4.ext hm183).exc hx176 (Nat.ne_of_lt (Nat.lt_trans lt_b2_b7 lt_b7_b132))).exc hx180 (Nat.ne_of_lt (Nat.lt_trans lt_b2_b7 (Nat.lt_trans lt_b7_b132 lt_b132_b162)))
              have hm184 := Ext.trans he133 (Ext.trans he163 he167)
              replace hb9 := ((hb9.ext hm184).exc hx176 (Nat.ne_of_lt lt_b7_b132)).exc hx180 (Nat.ne_of_lt (Nat.lt_trans lt_b7_b132 lt_b132_b162))
              replace hn67 := ((hn67.tr (Sm.ext he167)).apn hx176 nb_hx176).apn hx180 nb_hx180
              replace hd69 := ((hd69.tr (Sm.ext hm182)).apn hx176 nb_hx176).apn hx180 nb_hx180
              replace hr77 := ((hr77.tr (Sm.ext he167)).apn hx176 nb_hx176).apn hx180 nb_hx180
              replace hq169 := (hq169.apn hx176 nb_hx176).apn hx180 nb_hx180
              replace hr172 := (hr172.apn hx176 nb_hx176).apn hx180 nb_hx180
              replace hb134 := hb134.exc hx180 (Nat.ne_of_lt lt_b132_b162)
              refine ⟨b132, b162, vn66, vd68, vr76, vq168, vr171, ?_, ?_, ?_, ?_, ?_, ?_, ?_, ?_, ?_, ?_, ?_, ?_, ?_, ?_, ?_, ?_, ?_, ?_, ?_⟩
              · exact (by repeat (first | exact hoff59 | refine Off.st ?_ (by decide) _))
              · exact rfl
              · exact ge_b132
              · exact lt_b7_b132
              · exact ge_b162
              · exact (Nat.lt_trans lt_b7_b132 lt_b132_b162)
              · exact (Nat.ne_of_lt lt_b132_b162)
              · exact hx
              · exact hdx
              · exact hE
              · exact hb4
              · exact hb9
              · exact hn67
              · exact hd69
              · exact hr77
              · exact hq169
              · exact hr172
              · exact hb134
              · exact hb164
          · refine RS.run rfl rfl rfl (by decide) (h_alloc (cs := [(.bool false), (.slice none 0 0)]) ty40 rfl) ?_ RS.nil
            rintro _ w185 ⟨b186, rfl, hs189, hb188, he187⟩
            refine ⟨.inr (.inr he187), RA.more (S' := fun u => Ext _ u) (fun u hu => Ext.trans he187 hu) ?_⟩
            have hm190 := Ext.trans he61 (Ext.trans he65 he75)
            replace hb9 := hb9.ext hm190
            have lt_b7_b186 := Nat.lt_of_lt_of_eq hb9.lt hs189.symm
            have ge_b186 : w.heap.size ≤ b186 := by rw [hs189]; exact hE.size
            replace hE := Below.ext hE hE.size he187
            refine RA.all [5, 10] (by kernel_rfl) rfl ?_
            replace hn67 := hn67.tr (Sm.ext he187)
            replace hr77 := hr77.tr (Sm.ext he187)
            refine RS.call rfl rfl rfl (by decide) (r_call (vl := [(.agg #[(.bool (decide (qx.num < 0))), vn66]), (.agg #[(.bool (decide (((qx.den : Nat) : Int) < 0))), vr76])]) ent44 rfl) (r02_divmod hn67 (digs_lm _) (by first | omega | simp) (sg_canon _) hr77 (digs_lm _) (by first | omega | simp) (sg_canon _)) ?_ ?_
            · rintro _ w191 ⟨⟨vq193, vr196, rfl, hq194, hl195, hr197, hl198⟩, he192⟩
              refine ⟨.inr (.inr he192), RA.more (S' := fun u => Ext _ u) (fun u hu => Ext.trans he192 hu) ?_⟩
              replace hq194 := hq194.mono (D' := fun b T => w.heap.size ≤ b ∧ T = 52) (fun b T h => ⟨Nat.le_trans hE.size h.1, h.2⟩)
              replace hr197 := hr197.mono (D' := fun b T => w.heap.size ≤ b ∧ T = 52) (fun b T h => ⟨Nat.le_trans hE.size h.1, h.2⟩)
              replace hE := Below.ext hE hE.size he192
              refine RA.take 6 rfl (by kernel_rfl) rfl rfl (by decide) (fun _ => r_move_as (v := (.tuple #[(.agg #[(.bool (decide ((qx.num / ((qx.den : Nat) : Int)) < 0))), vq193]), (.agg #[(.bool (decide ((modI qx.num ((qx.den : Nat) : Int)) < 0))), vr196]), (.bool (decide (((qx.den : Nat) : Int) ≠ 0)))])) rfl) ?_
              refine RA.take 7 rfl (by kernel_rfl) rfl rfl (by decide) (fun _ => r_extract (v := (.agg #[(.bool (decide ((qx.num / ((qx.den : Nat) : Int)) < 0))), vq193])) rfl rfl) ?_
              refine RA.take 8 rfl (by kernel_rfl) rfl rfl (by decide) (fun _ => r_extract (v := (.agg #[(.bool (decide ((modI qx.num ((qx.den : Nat) : Int)) < 0))), vr196])) rfl rfl) ?_
              refine RA.take 9 rfl (by kernel_rfl) rfl rfl (by decide) (fun _ => r_extract (v := (.bool (decide (((qx.den : Nat) : Int) ≠ 0)))) rfl rfl) ?_
              refine RA.all [10] (by kernel_rfl) rfl ?_
              refine RS.run rfl rfl rfl (by decide) (h_alloc (cs := [(.bool false), (.slice none 0 0)]) ty40 rfl) ?_ RS.nil
              rintro _ w199 ⟨b200, rfl, hs203, hb202, he201⟩
              refine ⟨.inr (.inr he201), RA.more (S' := fun u => Ext _ u) (fun u hu => Ext.trans he201 hu) ?_⟩
              replace hb188 := hb188.ext he192
              have lt_b186_b200 := Nat.lt_of_lt_of_eq hb188.lt hs203.symm
              have ge_b200 : w.heap.size ≤ b200 := by rw [hs203]; exact hE.size
              replace hE := Below.ext hE hE.size he201
              refine RA.all [12] (by kernel_rfl) rfl ?_
              refine RS.runs rfl rfl rfl (h_store (vv := (.agg #[(.bool (decide ((qx.num / ((qx.den : Nat) : Int)) < 0))), vq193])) (cs := [(.bool (decide ((qx.num / ((qx.den : Nat) : Int)) < 0))), vq193]) (o := 0) ty40 rfl rfl rfl rfl (one_cons rfl (one_cons hq194.one one_nil)) hb202 (Nat.le_of_ble_eq_true rfl)) ?_ RS.nil
              rintro w204 ⟨hn205, hx206, hz207⟩
              refine ⟨.inr (.inl (by kernel_rfl)), ?_⟩
              replace hE := Below.exc hE hE.size hx206 ge_b200
              have nb_hx206 := (Nb.of hb202 (nu_cons rfl (nu_cons rfl nu_nil)))
              replace hb202 : Bk w204 b200 40 [(.bool (decide ((qx.num / ((qx.den : Nat) : Int)) < 0))), vq193] := hn205
              refine RA.all [13] (by kernel_rfl) rfl ?_
              replace hb188 := (hb188.ext he201).exc hx206 (Nat.ne_of_lt lt_b186_b200)
              refine RS.runs rfl rfl rfl (h_store (vv := (.agg #[(.bool (decide ((modI qx.num ((qx.den : Nat) : Int)) < 0))), vr196])) (cs := [(.bool (decide ((modI qx.num ((qx.den : Nat) : Int)) < 0))), vr196]) (o := 0) ty40 rfl rfl rfl rfl (one_cons rfl (one_cons hr197.one one_nil)) hb188 (Nat.le_of_ble_eq_true rfl)) ?_ RS.nil
              rintro w208 ⟨hn209, hx210, hz211⟩
              refine ⟨.inr (.inl (by kernel_rfl)), ?_⟩
              replace hE := Below.exc hE hE.size hx210 ge_b186
              have nb_hx210 := (Nb.of hb188 (nu_cons rfl (nu_cons rfl nu_nil)))
              replace hb188 : Bk w208 b186 40 [(.bool (decide ((modI qx.num ((qx.den : Nat) : Int)) < 0))), vr196] := hn209
              refine RA.take 14 rfl (by kernel_rfl) rfl rfl (by decide) (fun _ => r_assign_as (v := (.bool (decide (((qx.den : Nat) : Int) ≠ 0)))) rfl) ?_
              refine RA.done (by kernel_rfl) ?_
              have hm212 := Ext.trans he75 (Ext.trans he187 (Ext.trans he192 he201))
              replace hx := ((hx.tr (Sm.ext hm212)).apn hx206 nb_hx206).apn hx210 nb_hx210
              replace hdx := ((hdx.tr (Sm.ext hm212)).apn hx206 nb_hx206).apn hx210 nb_hx210
              have hm213 := Ext.trans he65 (Ext.trans he75 (Ext.trans he187 (Ext.trans he192 he201)))
              replace hb4 := ((hb4.ext hm213).exc hx206 (Nat.ne_of_lt (Nat.lt_trans lt_b2_b7 (Nat.lt_trans lt_b7_b186 lt_b186_b200)))).exc hx210 (Nat.ne_of_lt (Nat.lt_trans lt_b2_b7 lt_b7_b186))
              have hm214 := Ext.trans he187 (Ext.trans he192 he201)
              replace hb9 := ((hb9.ext hm214).exc hx206 (Nat.ne_of_lt (Nat.lt_trans lt_b7_b186 lt_b186_b200))).exc hx210 (Nat.ne_of_lt lt_b7_b186)
              replace hn67 := ((hn67.tr (Sm.ext (Ext.trans he192 he201))).apn hx206 nb_hx206).apn hx210 nb_hx210
              replace hd69 := ((hd69.tr (Sm.ext hm212)).apn hx206 nb_hx206).apn hx210 nb_hx210
              replace hr77 := ((hr77.tr (Sm.ext (Ext.trans he192 he201))).apn hx206 nb_hx206).apn hx210 nb_hx210
              replace hq194 := ((hq194.tr (Sm.ext he201)).apn hx206 nb_hx206).apn hx210 nb_hx210
              replace hr197 := ((hr197.tr (Sm.ext he201)).apn hx206 nb_hx206).apn hx210 nb_hx210
              replace hb202 := hb202.exc hx210 (Nat.ne_of_gt lt_b186_b200)
              refine ⟨b200, b186, vn66, vd68, vr76, vq193, vr196, ?_, ?_, ?_, ?_, ?_, ?_, ?_, ?_, ?_, ?_, ?_, ?_, ?_, ?_, ?_, ?_, ?_, ?_, ?_⟩
              · exact (by repeat (first | exact hoff59 | refine Off.st ?_ (by decide) _))
              · exact rfl
              · exact ge_b200
              · exact (Nat.lt_trans lt_b7_b186 lt_b186_b200)
              · exact ge_b186
              · exact lt_b7_b186
              · exact (Nat.ne_of_gt lt_b186_b200)
              · exact hx
              · exact hdx
              · exact hE
              · exact hb4
              · exact hb9
              · exact hn67
              · exact hd69
              · exact hr77
              · exact hq194
              · exact hr197
              · exact hb202
              · exact hb188
            · refine RS.run rfl rfl rfl (by decide) (h_alloc (cs := [(.bool false), (.slice none 0 0)]) ty40 rfl) ?_ RS.nil
              rintro _ w215 ⟨b216, rfl, hs219, hb218, he217⟩
              refine ⟨.inr (.inr he217), RA.more (S' := fun u => Ext _ u) (fun u hu => Ext.trans he217 hu) ?_⟩
              have lt_b186_b216 := Nat.lt_of_lt_of_eq hb188.lt hs219.symm
              have ge_b216 : w.heap.size ≤ b216 := by rw [hs219]; exact hE.size
              replace hE := Below.ext hE hE.size he217
              refine RA.all [5] (by kernel_rfl) rfl ?_
              replace hn67 := hn67.tr (Sm.ext he217)
              replace hr77 := hr77.tr (Sm.ext he217)
              refine RS.call rfl rfl rfl (by decide) (r_call (vl := [(.agg #[(.bool (decide (qx.num < 0))), vn66]), (.agg #[(.bool (decide (((qx.den : Nat) : Int) < 0))), vr76])]) ent44 rfl) (r02_divmod hn67 (digs_lm _) (by first | omega | simp) (sg_canon _) hr77 (digs_lm _) (by first | omega | simp) (sg_canon _)) ?_ RS.nil
              rintro _ w220 ⟨⟨vq222, vr225, rfl, hq223, hl224, hr226, hl227⟩, he221⟩
              refine ⟨.inr (.inr he221), RA.more (S' := fun u => Ext _ u) (fun u hu => Ext.trans he221 hu) ?_⟩
              replace hq223 := hq223.mono (D' := fun b T => w.heap.size ≤ b ∧ T = 52) (fun b T h => ⟨Nat.le_trans hE.size h.1, h.2⟩)
              replace hr226 := hr226.mono (D' := fun b T => w.heap.size ≤ b ∧ T = 52) (fun b T h => ⟨Nat.le_trans hE.size h.1, h.2⟩)
              replace hE := Below.ext hE hE.size he221
              refine RA.take 6 rfl (by kernel_rfl) rfl rfl (by decide) (fun _ => r_move_as (v := (.tuple #[(.agg #[(.bool (decide ((qx.num / ((qx.den : Nat) : Int)) < 0))), vq222]), (.agg #[(.bool (decide ((modI qx.num ((qx.den : Nat) : Int)) < 0))), vr225]), (.bool (decide (((qx.den : Nat) : Int) ≠ 0)))])) rfl) ?_
              refine RA.take 7 rfl (by kernel_rfl) rfl rfl (by decide) (fun _ => r_extract (v := (.agg #[(.bool (decide ((qx.num / ((qx.den : Nat) : Int)) < 0))), vq222])) rfl rfl) ?_
              refine RA.take 8 rfl (by kernel_rfl) rfl rfl (by decide) (fun _ => r_extract (v := (.agg #[(.bool (decide ((modI qx.num ((qx.den : Nat) : Int)) < 0))), vr225])) rfl rfl) ?_
              refine RA.take 9 rfl (by kernel_rfl) rfl rfl (by decide) (fun _ => r_extract (v := (.bool (decide (((qx.den : Nat) : Int) ≠ 0)))) rfl rfl) ?_
              refine RA.all [12] (by kernel_rfl) rfl ?_
              replace hb218 := hb218.ext he221
              refine RS.runs rfl rfl rfl (h_store (vv := (.agg #[(.bool (decide ((qx.num / ((qx.den : Nat) : Int)) < 0))), vq222])) (cs := [(.bool (decide ((qx.num / ((qx.den : Nat) : Int)) < 0))), vq222]) (o := 0) ty40 rfl rfl rfl rfl (one_cons rfl (one_cons hq223.one one_nil)) hb218 (Nat.le_of_ble_eq_true rfl)) ?_ RS.nil
              rintro w228 ⟨hn229, hx230, hz231⟩
              refine ⟨.inr (.inl (by kernel_rfl)), ?_⟩
              replace hE := Below.exc hE hE.size hx230 ge_b216
              have nb_hx230 := (Nb.of hb218 (nu_cons rfl (nu_cons rfl nu_nil)))
              replace hb218 : Bk w228 b216 40 [(.bool (decide ((qx.num / ((qx.den : Nat) : Int)) < 0))), vq222] := hn229
              refine RA.all [13] (by kernel_rfl) rfl ?_
              replace hb188 := (hb188.ext (Ext.trans he217 he221)).exc hx230 (Nat.ne_of_lt lt_b186_b216)
              refine RS.runs rfl rfl rfl (h_store (vv := (.agg #[(.bool (decide ((modI qx.num ((qx.den : Nat) : Int)) < 0))), vr225])) (cs := [(.bool (decide ((modI qx.num ((qx.den : Nat) : Int)) < 0))), vr225]) (o := 0) ty40 rfl rfl rfl rfl (one_cons rfl (one_cons hr226.one one_nil)) hb188 (Nat.le_of_ble_eq_true rfl)) ?_ RS.nil
              rintro w232 ⟨hn233, hx234, hz235⟩
              refine ⟨.inr (.inl (by kernel_rfl)), ?_⟩
              replace hE := Below.exc hE hE.size hx234 ge_b186
              have nb_hx234 := (Nb.of hb188 (nu_cons rfl (nu_cons rfl nu_nil)))
              replace hb188 : Bk w232 b186 40 [(.bool (decide ((modI qx.num ((qx.den : Nat) : Int)) < 0))), vr225] := hn233
              refine RA.take 14 rfl (by kernel_rfl) rfl rfl (by decide) (fun _ => r_assign_as (v := (.bool (decide (((qx.den : Nat) : Int) ≠ 0)))) rfl) ?_
              refine RA.done (by kernel_rfl) ?_
              have hm236 := Ext.trans he75 (Ext.trans he187 (Ext.trans he217 he221))
              replace hx := ((hx.tr (Sm.ext hm236)).apn hx230 nb_hx230).apn hx234 nb_hx234
              replace hdx := ((hdx.tr (Sm.ext hm236)).apn hx230 nb_hx230).apn hx234 nb_hx234
              have hm237 := Ext.trans he65 (Ext.trans he75 (Ext.trans he187 (Ext.trans he217 he221)))
              replace hb4 := ((hb4.ext hm237).exc hx230 (Nat.ne_of_lt (Nat.lt_trans lt_b2_b7 (Nat.lt_trans lt_b7_b186 lt_b186_b216)))).exc hx234 (Nat.ne_of_lt (Nat.lt_trans lt_b2_b7 lt_b7_b186))
              have hm238 := Ext.trans he187 (Ext.trans he217 he221)
              replace hb9 := ((hb9.ext hm238).exc hx230 (Nat.ne_of_lt (Nat.lt_trans lt_b7_b186 lt_b186_b216))).exc hx234 (Nat.ne_of_lt lt_b7_b186)
              replace hn67 := ((hn67.tr (Sm.ext he221)).apn hx230 nb_hx230).apn hx234 nb_hx234
              replace hd69 := ((hd69.tr (Sm.ext hm236)).apn hx230 nb_hx230).apn hx234 nb_hx234
              replace hr77 := ((hr77.tr (Sm.ext he221)).apn hx230 nb_hx230).apn hx234 nb_hx234
              replace hq223 := (hq223.apn hx230 nb_hx230).apn hx234 nb_hx234
              replace hr226 := (hr226.apn hx230 nb_hx230).apn hx234 nb_hx234
              replace hb218 := hb218.exc hx234 (Nat.ne_of_gt lt_b186_b216)
              refine ⟨b216, b186, vn66, vd68, vr76, vq222, vr225, ?_, ?_, ?_, ?_, ?_, ?_, ?_, ?_, ?_, ?_, ?_, ?_, ?_, ?_, ?_, ?_, ?_, ?_, ?_⟩
              · exact (by repeat (first | exact hoff59 | refine Off.st ?_ (by decide) _))
              · exact rfl
              · exact ge_b216
              · exact (Nat.lt_trans lt_b7_b186 lt_b186_b216)
              · exact ge_b186
              · exact lt_b7_b186
              · exact (Nat.ne_of_gt lt_b186_b216)
              · exact hx
              · exact hdx
              · exact hE
              · exact hb4
              · exact hb9
              · exact hn67
              · exact hd69
              · exact hr77
              · exact hq223
              · exact hr226
              · exact hb218
              · exact hb188
      · refine RS.run rfl rfl rfl (by decide) (h_alloc (cs := [(.bool false), (.slice none 0 0)]) ty40 rfl) ?_ ?_
        · rintro _ w239 ⟨b240, rfl, hs243, hb242, he241⟩
          refine ⟨.inr (.inr he241), RA.more (S' := fun u => Ext _ u) (fun u hu => Ext.trans he241 hu) ?_⟩
          replace hb9 := hb9.ext (Ext.trans he61 he65)
          have lt_b7_b240 := Nat.lt_of_lt_of_eq hb9.lt hs243.symm
          have ge_b240 : w.heap.size ≤ b240 := by rw [hs243]; exact hE.size
          replace hE := Below.ext hE hE.size he241
          refine RA.all [4, 11] (by kernel_rfl) rfl ?_
          replace hx := hx.tr (Sm.ext he241)
          replace hdx := hdx.tr (Sm.ext he241)
          refine RS.call rfl rfl rfl (by decide) (r_call (vl := [(.agg #[(.bool (sx)), vx, ux])]) ent39 rfl) (r03_den hx (by assumption) (by first | omega | simp) hdx (by assumption) (by first | omega | simp) (show ratOf sx (val x) (val dx) = qx from ex)) ?_ ?_
          · rintro _ w244 ⟨⟨vr246, rfl, hr247, hl248⟩, he245⟩
            refine ⟨.inr (.inr he245), RA.more (S' := fun u => Ext _ u) (fun u hu => Ext.trans he245 hu) ?_⟩
            replace hr247 := hr247.mono (D' := fun b T => w.heap.size ≤ b ∧ T = 52) (fun b T h => ⟨Nat.le_trans hE.size h.1, h.2⟩)
            replace hE := Below.ext hE hE.size he245
            refine RA.all [5, 11] (by kernel_rfl) rfl ?_
            replace hn67 := hn67.tr (Sm.ext (Ext.trans he241 he245))
            refine RS.call rfl rfl rfl (by decide) (r_call (vl := [(.agg #[(.bool (decide (qx.num < 0))), vn66]), (.agg #[(.bool (decide (((qx.den : Nat) : Int) < 0))), vr246])]) ent44 rfl) (r02_divmod hn67 (digs_lm _) (by first | omega | simp) (sg_canon _) hr247 (digs_lm _) (by first | omega | simp) (sg_canon _)) ?_ ?_
            · rintro _ w249 ⟨⟨vq251, vr254, rfl, hq252, hl253, hr255, hl256⟩, he250⟩
              refine ⟨.inr (.inr he250), RA.more (S' := fun u => Ext _ u) (fun u hu => Ext.trans he250 hu) ?_⟩
              replace hq252 := hq252.mono (D' := fun b T => w.heap.size ≤ b ∧ T = 52) (fun b T h => ⟨Nat.le_trans hE.size h.1, h.2⟩)
              replace hr255 := hr255.mono (D' := fun b T => w.heap.size ≤ b ∧ T = 52) (fun b T h => ⟨Nat.le_trans hE.size h.1, h.2⟩)
              replace hE := Below.ext hE hE.size he250
              refine RA.take 6 rfl (by kernel_rfl) rfl rfl (by decide) (fun _ => r_move_as (v := (.tuple #[(.agg #[(.bool (decide ((qx.num / ((qx.den : Nat) : Int)) < 0))), vq251]), (.agg #[(.bool (decide ((modI qx.num ((qx.den : Nat) : Int)) < 0))), vr254]), (.bool (decide (((qx.den : Nat) : Int) ≠ 0)))])) rfl) ?_
              refine RA.take 7 rfl (by kernel_rfl) rfl rfl (by decide) (fun _ => r_extract (v := (.agg #[(.bool (decide ((qx.num / ((qx.den : Nat) : Int)) < 0))), vq251])) rfl rfl) ?_
              refine RA.take 8 rfl (by kernel_rfl) rfl rfl (by decide) (fun _ => r_extract (v := (.agg #[(.bool (decide ((modI qx.num ((qx.den : Nat) : Int)) < 0))), vr254])) rfl rfl) ?_
              refine RA.take 9 rfl (by kernel_rfl) rfl rfl (by decide) (fun _ => r_extract (v := (.bool (decide (((qx.den : Nat) : Int) ≠ 0)))) rfl rfl) ?_
              refine RA.all [11] (by kernel_rfl) rfl ?_
              refine RS.run rfl rfl rfl (by decide) (h_alloc (cs := [(.bool false), (.slice none 0 0)]) ty40 rfl) ?_ RS.nil
              rintro _ w257 ⟨b258, rfl, hs261, hb260, he259⟩
              refine ⟨.inr (.inr he259), RA.more (S' := fun u => Ext _ u) (fun u hu => Ext.trans he259 hu) ?_⟩
              replace hb242 := hb242.ext (Ext.trans he245 he250)
              have lt_b240_b258 := Nat.lt_of_lt_of_eq hb242.lt hs261.symm
              have ge_b258 : w.heap.size ≤ b258 := by rw [hs261]; exact hE.size
              replace hE := Below.ext hE hE.size he259
              refine RA.all [12] (by kernel_rfl) rfl ?_
              replace hb242 := hb242.ext he259
              refine RS.runs rfl rfl rfl (h_store (vv := (.agg #[(.bool (decide ((qx.num / ((qx.den : Nat) : Int)) < 0))), vq251])) (cs := [(.bool (decide ((qx.num / ((qx.den : Nat) : Int)) < 0))), vq251]) (o := 0) ty40 rfl rfl rfl rfl (one_cons rfl (one_cons hq252.one one_nil)) hb242 (Nat.le_of_ble_eq_true rfl)) ?_ RS.nil
              rintro w262 ⟨hn263, hx264, hz265⟩
              refine ⟨.inr (.inl (by kernel_rfl)), ?_⟩
              replace hE := Below.exc hE hE.size hx264 ge_b240
              have nb_hx264 := (Nb.of hb242 (nu_cons rfl (nu_cons rfl nu_nil)))
              replace hb242 : Bk w262 b240 40 [(.bool (decide ((qx.num / ((qx.den : Nat) : Int)) < 0))), vq251] := hn263
              refine RA.all [13] (by kernel_rfl) rfl ?_
              replace hb260 := hb260.exc hx264 (Nat.ne_of_gt lt_b240_b258)
              refine RS.runs rfl rfl rfl (h_store (vv := (.agg #[(.bool (decide ((modI qx.num ((qx.den : Nat) : Int)) < 0))), vr254])) (cs := [(.bool (decide ((modI qx.num ((qx.den : Nat) : Int)) < 0))), vr254]) (o := 0) ty40 rfl rfl rfl rfl (one_cons rfl (one_cons hr255.one one_nil)) hb260 (Nat.le_of_ble_eq_true rfl)) ?_ RS.nil
              rintro w266 ⟨hn267, hx268, hz269⟩
              refine ⟨.inr (.inl (by kernel_rfl)), ?_⟩
              replace hE := Below.exc hE hE.size hx268 ge_b258
              have nb_hx268 := (Nb.of hb260 (nu_cons rfl (nu_cons rfl nu_nil)))
              replace hb260 : Bk w266 b258 40 [(.bool (decide ((modI qx.num ((qx.den : Nat) : Int)) < 0))), vr254] := hn267
              refine RA.take 14 rfl (by kernel_rfl) rfl rfl (by decide) (fun _ => r_assign_as (v := (.bool (decide (((qx.den : Nat) : Int) ≠ 0)))) rfl) ?_
              refine RA.done (by kernel_rfl) ?_
              have hm270 := Ext.trans he245 (Ext.trans he250 he259)
              replace hx := ((hx.tr (Sm.ext hm270)).apn hx264 nb_hx264).apn hx268 nb_hx268
              replace hdx := ((hdx.tr (Sm.ext hm270)).apn hx264 nb_hx264).apn hx268 nb_hx268
              have hm271 := Ext.trans he65 (Ext.trans he241 (Ext.trans he245 (Ext.trans he250 he259)))
              replace hb4 := ((hb4.ext hm271).exc hx264 (Nat.ne_of_lt (Nat.lt_trans lt_b2_b7 lt_b7_b240))).exc hx268 (Nat.ne_of_lt (Nat.lt_trans lt_b2_b7 (Nat.lt_trans lt_b7_b240 lt_b240_b258)))
              have hm272 := Ext.trans he241 (Ext.trans he245 (Ext.trans he250 he259))
              replace hb9 := ((hb9.ext hm272).exc hx264 (Nat.ne_of_lt lt_b7_b240)).exc hx268 (Nat.ne_of_lt (Nat.lt_trans lt_b7_b240 lt_b240_b258))
              replace hn67 := ((hn67.tr (Sm.ext (Ext.trans he250 he259))).apn hx264 nb_hx264).apn hx268 nb_hx268
              replace hd69 := ((hd69.tr (Sm.ext hm272)).apn hx264 nb_hx264).apn hx268 nb_hx268
              replace hr247 := ((hr247.tr (Sm.ext (Ext.trans he250 he259))).apn hx264 nb_hx264).apn hx268 nb_hx268
              replace hq252 := ((hq252.tr (Sm.ext he259)).apn hx264 nb_hx264).apn hx268 nb_hx268
              replace hr255 := ((hr255.tr (Sm.ext he259)).apn hx264 nb_hx264).apn hx268 nb_hx268
              replace hb242 := hb242.exc hx268 (Nat.ne_of_lt lt_b240_b258)
              refine ⟨b240, b258, vn66, vd68, vr246, vq251, vr254, ?_, ?_, ?_, ?_, ?_, ?_, ?_, ?_, ?_, ?_, ?_, ?_, ?_, ?_, ?_, ?_, ?_, ?_, ?_⟩
              · exact (by repeat (first | exact hoff59 | refine Off.st ?_ (by decide) _))
              · exact rfl
              · exact ge_b240
              · exact lt_b7_b240
              · exact ge_b258
              · exact (Nat.lt_trans lt_b7_b240 lt_b240_b258)
              · exact (Nat.ne_of_lt lt_b240_b258)
              · exact hx
              · exact hdx
              · exact hE
              · exact hb4
              · exact hb9
              · exact hn67
              · exact hd69
              · exact hr247
              · exact hq252
              · exact hr255
              · exact hb242
              · exact hb260
            · refine RS.run rfl rfl rfl (by decide) (h_alloc (cs := [(.bool false), (.slice none 0 0)]) ty40 rfl) ?_ RS.nil
              rintro _ w273 ⟨b274, rfl, hs277, hb276, he275⟩
              refine ⟨.inr (.inr he275), RA.more (S' := fun u => Ext _ u) (fun u hu => Ext.trans he275 hu) ?_⟩
              replace hb242 := hb242.ext he245
              have lt_b240_b274 := Nat.lt_of_lt_of_eq hb242.lt hs277.symm
              have ge_b274 : w.heap.size ≤ b274 := by rw [hs277]; exact hE.size
              replace hE := Below.ext hE hE.size he275
              refine RA.all [5] (by kernel_rfl) rfl ?_
              replace hn67 := hn67.tr (Sm.ext he275)
              replace hr247 := hr247.tr (Sm.ext he275)
              refine RS.call rfl rfl rfl (by decide) (r_call (vl := [(.agg #[(.bool (decide (qx.num < 0))), vn66]), (.agg #[(.bool (decide (((qx.den : Nat) : Int) < 0))), vr246])]) ent44 rfl) (r02_divmod hn67 (digs_lm _) (by first | omega | simp) (sg_canon _) hr247 (digs_lm _) (by first | omega | simp) (sg_canon _)) ?_ RS.nil
              rintro _ w278 ⟨⟨vq280, vr283, rfl, hq281, hl282, hr284, hl285⟩, he279⟩
              refine ⟨.inr (.inr he279), RA.more (S' := fun u => Ext _ u) (fun u hu => Ext.trans he279 hu) ?_⟩
              replace hq281 := hq281.mono (D' := fun b T => w.heap.size ≤ b ∧ T = 52) (fun b T h => ⟨Nat.le_trans hE.size h.1, h.2⟩)
              replace hr284 := hr284.mono (D' := fun b T => w.heap.size ≤ b ∧ T = 52) (fun b T h => ⟨Nat.le_trans hE.size h.1, h.2⟩)
              replace hE := Below.ext hE hE.size he279
              refine RA.take 6 rfl (by kernel_rfl) rfl rfl (by decide) (fun _ => r_move_as (v := (.tuple #[(.agg #[(.bool (decide ((qx.num / ((qx.den : Nat) : Int)) < 0))), vq280]), (.agg #[(.bool (decide ((modI qx.num ((qx.den : Nat) : Int)) < 0))), vr283]), (.bool (decide (((qx.den : Nat) : Int) ≠ 0)))])) rfl) ?_
              refine RA.take 7 rfl (by kernel_rfl) rfl rfl (by decide) (fun _ => r_extract (v := (.agg #[(.bool (decide ((qx.num / ((qx.den : Nat) : Int)) < 0))), vq280])) rfl rfl) ?_
              refine RA.take 8 rfl (by kernel_rfl) rfl rfl (by decide) (fun _ => r_extract (v := (.agg #[(.bool (decide ((modI qx.num ((qx.den : Nat) : Int)) < 0))), vr283])) rfl rfl) ?_
              refine RA.take 9 rfl (by kernel_rfl) rfl rfl (by decide) (fun _ => r_extract (v := (.bool (decide (((qx.den : Nat) : Int) ≠ 0)))) rfl rfl) ?_
              refine RA.all [12] (by kernel_rfl) rfl ?_
              replace hb242 := hb242.ext (Ext.trans he275 he279)
              refine RS.runs rfl rfl rfl (h_store (vv := (.agg #[(.bool (decide ((qx.num / ((qx.den : Nat) : Int)) < 0))), vq280])) (cs := [(.bool (decide ((qx.num / ((qx.den : Nat) : Int)) < 0))), vq280]) (o := 0) ty40 rfl rfl rfl rfl (one_cons rfl (one_cons hq281.one one_nil)) hb242 (Nat.le_of_ble_eq_true rfl)) ?_ RS.nil
              rintro w286 ⟨hn287, hx288, hz289⟩
              refine ⟨.inr (.inl (by kernel_rfl)), ?_⟩
              replace hE := Below.exc hE hE.size hx288 ge_b240
              have nb_hx288 := (Nb.of hb242 (nu_cons rfl (nu_cons rfl nu_nil)))
              replace hb242 : Bk w286 b240 40 [(.bool (decide ((qx.num / ((qx.den : Nat) : Int)) < 0))), vq280] := hn287
              refine RA.all [13] (by kernel_rfl) rfl ?_
              replace hb276 := (hb276.ext he279).exc hx288 (Nat.ne_of_gt lt_b240_b274)
              refine RS.runs rfl rfl rfl (h_store (vv := (.agg #[(.bool (decide ((modI qx.num ((qx.den : Nat) : Int)) < 0))), vr283])) (cs := [(.bool (decide ((modI qx.num ((qx.den : Nat) : Int)) < 0))), vr283]) (o := 0) ty40 rfl rfl rfl rfl (one_cons rfl (one_cons hr284.one one_nil)) hb276 (Nat.le_of_ble_eq_true rfl)) ?_ RS.nil
              rintro w290 ⟨hn291, hx292, hz293⟩
              refine ⟨.inr (.inl (by kernel_rfl)), ?_⟩
              replace hE := Below.exc hE hE.size hx292 ge_b274
              have nb_hx292 := (Nb.of hb276 (nu_cons rfl (nu_cons rfl nu_nil)))
              replace hb276 : Bk w290 b274 40 [(.bool (decide ((modI qx.num ((qx.den : Nat) : Int)) < 0))), vr283] := hn291
              refine RA.take 14 rfl (by kernel_rfl) rfl rfl (by decide) (fun _ => r_assign_as (v := (.bool (decide (((qx.den : Nat) : Int) ≠ 0)))) rfl) ?_
              refine RA.done (by kernel_rfl) ?_
              have hm294 := Ext.trans he245 (Ext.trans he275 he279)
              replace hx := ((hx.tr (Sm.ext hm294)).apn hx288 nb_hx288).apn hx292 nb_hx292
              replace hdx := ((hdx.tr (Sm.ext hm294)).apn hx288 nb_hx288).apn hx292 nb_hx292
              have hm295 := Ext.trans he65 (Ext.trans he241 (Ext.trans he245 (Ext.trans he275 he279)))
              replace hb4 := ((hb4.ext hm295).exc hx288 (Nat.ne_of_lt (Nat.lt_trans lt_b2_b7 lt_b7_b240))).exc hx292 (Nat.ne_of_lt (Nat.lt_trans lt_b2_b7 (Nat.lt_trans lt_b7_b240 lt_b240_b274)))
              have hm296 := Ext.trans he241 (Ext.trans he245 (Ext.trans he275 he279))
              replace hb9 := ((hb9.ext hm296).exc hx288 (Nat.ne_of_lt lt_b7_b240)).exc hx292 (Nat.ne_of_lt (Nat.lt_trans lt_b7_b240 lt_b240_b274))
              replace hn67 := ((hn67.tr (Sm.ext he279)).apn hx288 nb_hx288).apn hx292 nb_hx292
              replace hd69 := ((hd69.tr (Sm.ext hm296)).apn hx288 nb_hx288).apn hx292 nb_hx292
              replace hr247 := ((hr247.tr (Sm.ext he279)).apn hx288 nb_hx288).apn hx292 nb_hx292
              replace hq281 := (hq281.apn hx288 nb_hx288).apn hx292 nb_hx292
              replace hr284 := (hr284.apn hx288 nb_hx288).apn hx292 nb_hx292
              replace hb242 := hb242.exc hx292 (Nat.ne_of_lt lt_b240_b274)
              refine ⟨b240, b274, vn66, vd68, vr246, vq280, vr283, ?_, ?_, ?_, ?_, ?_, ?_, ?_, ?_, ?_, ?_, ?_, ?_, ?_, ?_, ?_, ?_, ?_, ?_, ?_⟩
              · exact (by repeat (first | exact hoff59 | refine Off.st ?_ (by decide) _))
              · exact rfl
              · exact ge_b240
              · exact lt_b7_b240
              · exact ge_b274
              · exact (Nat.lt_trans lt_b7_b240 lt_b240_b274)
              · exact (Nat.ne_of_lt lt_b240_b274)
              · exact hx
              · exact hdx
              · exact hE
              · exact hb4
              · exact hb9
              · exact hn67
              · exact hd69
              · exact hr247
              · exact hq281
              · exact hr284
              · exact hb242
              · exact hb276
          · refine RS.run rfl rfl rfl (by decide) (h_alloc (cs := [(.bool false), (.slice none 0 0)]) ty40 rfl) ?_ RS.nil
            rintro _ w297 ⟨b298, rfl, hs301, hb300, he299⟩
            refine ⟨.inr (.inr he299), RA.more (S' := fun u => Ext _ u) (fun u hu => Ext.trans he299 hu) ?_⟩
            have lt_b240_b298 := Nat.lt_of_lt_of_eq hb242.lt hs301.symm
            have ge_b298 : w.heap.size ≤ b298 := by rw [hs301]; exact hE.size
            replace hE := Below.ext hE hE.size he299
            refine RA.all [4] (by kernel_rfl) rfl ?_
            replace hx := hx.tr (Sm.ext he299)
            replace hdx := hdx.tr (Sm.ext he299)
            refine RS.call rfl rfl rfl (by decide) (r_call (vl := [(.agg #[(.bool (sx)), vx, ux])]) ent39 rfl) (r03_den hx (by assumption) (by first | omega | simp) hdx (by assumption) (by first | omega | simp) (show ratOf sx (val x) (val dx) = qx from ex)) ?_ RS.nil
            rintro _ w302 ⟨⟨vr304, rfl, hr305, hl306⟩, he303⟩
            refine ⟨.inr (.inr he303), RA.more (S' := fun u => Ext _ u) (fun u hu => Ext.trans he303 hu) ?_⟩
            replace hr305 := hr305.mono (D' := fun b T => w.heap.size ≤ b ∧ T = 52) (fun b T h => ⟨Nat.le_trans hE.size h.1, h.2⟩)
            replace hE := Below.ext hE hE.size he303
            refine RA.all [5] (by kernel_rfl) rfl ?_
            have hm315 := Ext.trans he241 (Ext.trans he299 he303)
            replace hn67 := hn67.tr (Sm.ext hm315)
            refine RS.call rfl rfl rfl (by decide) (r_call (vl := [(.agg #[(.bool (decide (qx.num < 0))), vn66]), (.agg #[(.bool (decide (((qx.den : Nat) : Int) < 0))), vr304])]) ent44 rfl) (r02_divmod hn67 (digs_lm _) (by first | omega | simp) (sg_canon _) hr305 (digs_lm _) (by first | omega | simp) (sg_canon _)) ?_ RS.nil
            rintro _ w307 ⟨⟨vq309, vr312, rfl, hq310, hl311, hr313, hl314⟩, he308⟩
            refine ⟨.inr (.inr he308), RA.more (S' := fun u => Ext _ u) (fun u hu => Ext.trans he308 hu) ?_⟩
            replace hq310 := hq310.mono (D' := fun b T => w.heap.size ≤ b ∧ T = 52) (fun b T h => ⟨Nat.le_trans hE.size h.1, h.2⟩)
            replace hr313 := hr313.mono (D' := fun b T => w.heap.size ≤ b ∧ T = 52) (fun b T h => ⟨Nat.le_trans hE.size h.1, h.2⟩)
            replace hE := Below.ext hE hE.size he308
            refine RA.take 6 rfl (by kernel_rfl) rfl rfl (by decide) (fun _ => r_move_as (v := (.tuple #[(.agg #[(.bool (decide ((qx.num / ((qx.den : Nat) : Int)) < 0))), vq309]), (.agg #[(.bool (decide ((modI qx.num ((qx.den : Nat) : Int)) < 0))), vr312]), (.bool (decide (((qx.den : Nat) : Int) ≠ 0)))])) rfl) ?_
            refine RA.take 7 rfl (by kernel_rfl) rfl rfl (by decide) (fun _ => r_extract (v := (.agg #[(.bool (decide ((qx.num / ((qx.den : Nat) : Int)) < 0))), vq309])) rfl rfl) ?_
            refine RA.take 8 rfl (by kernel_rfl) rfl rfl (by decide) (fun _ => r_extract (v := (.agg #[(.bool (decide ((modI qx.num ((qx.den : Nat) : Int)) < 0))), vr312])) rfl rfl) ?_
            refine RA.take 9 rfl (by kernel_rfl) rfl rfl (by decide) (fun _ => r_extract (v := (.bool (decide (((qx.den : Nat) : Int) ≠ 0)))) rfl rfl) ?_
            refine RA.all [12] (by kernel_rfl) rfl ?_
            have hm320 := Ext.trans he299 (Ext.trans he303 he308)
            replace hb242 := hb242.ext hm320
            refine RS.runs rfl rfl rfl (h_store (vv := (.agg #[(.bool (decide ((qx.num / ((qx.den : Nat) : Int)) < 0))), vq309])) (cs := [(.bool (decide ((qx.num / ((qx.den : Nat) : Int)) < 0))), vq309]) (o := 0) ty40 rfl rfl rfl rfl (one_cons rfl (one_cons hq310.one one_nil)) hb242 (Nat.le_of_ble_eq_true rfl)) ?_ RS.nil
            rintro w316 ⟨hn317, hx318, hz319⟩
            refine ⟨.inr (.inl (by kernel_rfl)), ?_⟩
            replace hE := Below.exc hE hE.size hx318 ge_b240
            have nb_hx318 := (Nb.of hb242 (nu_cons rfl (nu_cons rfl nu_nil)))
            replace hb242 : Bk w316 b240 40 [(.bool (decide ((qx.num / ((qx.den : Nat) : Int)) < 0))), vq309] := hn317
            refine RA.all [13] (by kernel_rfl) rfl ?_
            replace hb300 := (hb300.ext (Ext.trans he303 he308)).exc hx318 (Nat.ne_of_gt lt_b240_b298)
            refine RS.runs rfl rfl rfl (h_store (vv := (.agg #[(.bool (decide ((modI qx.num ((qx.den : Nat) : Int)) < 0))), vr312])) (cs := [(.bool (decide ((modI qx.num ((qx.den : Nat) : Int)) < 0))), vr312]) (o := 0) ty40 rfl rfl rfl rfl (one_cons rfl (one_cons hr313.one one_nil)) hb300 (Nat.le_of_ble_eq_true rfl)) ?_ RS.nil
            rintro w321 ⟨hn322, hx323, hz324⟩
            refine ⟨.inr (.inl (by kernel_rfl)), ?_⟩
            replace hE := Below.exc hE hE.size hx323 ge_b298
            have nb_hx323 := (Nb.of hb300 (nu_cons rfl (nu_cons rfl nu_nil)))
            replace hb300 : Bk w321 b298 40 [(.bool (decide ((modI qx.num ((qx.den : Nat) : Int)) < 0))), vr312] := hn322
            refine RA.take 14 rfl (by kernel_rfl) rfl rfl (by decide) (fun _ => r_assign_as (v := (.bool (decide (((qx.den : Nat) : Int) ≠ 0)))) rfl) ?_
            refine RA.done (by kernel_rfl) ?_
            replace hx := ((hx.tr (Sm.ext (Ext.trans he303 he308))).apn hx318 nb_hx318).apn hx323 nb_hx323
            replace hdx := ((hdx.tr (Sm.ext (Ext.trans he303 he308))).apn hx318 nb_hx318).apn hx323 nb_hx323
            have hm325 := Ext.trans he65 (Ext.trans he241 (Ext.trans he299 (Ext.trans he303 he308)))
            replace hb4 := ((hb4.ext hm325).exc hx318 (Nat.ne_of_lt (Nat.lt_trans lt_b2_b7 lt_b7_b240))).exc hx323 (Nat.ne_of_lt (Nat.lt_trans lt_b2_b7 (Nat.lt_trans lt_b7_b240 lt_b240_b298)))
            have hm326 := Ext.trans hm315 he308
            replace hb9 := ((hb9.ext hm326).exc hx318 (Nat.ne_of_lt lt_b7_b240)).exc hx323 (Nat.ne_of_lt (Nat.lt_trans lt_b7_b240 lt_b240_b298))
            replace hn67 := ((hn67.tr (Sm.ext he308)).apn hx318 nb_hx318).apn hx323 nb_hx323
            replace hd69 := ((hd69.tr (Sm.ext hm326)).apn hx318 nb_hx318).apn hx323 nb_hx323
            replace hr305 := ((hr305.tr (Sm.ext he308)).apn hx318 nb_hx318).apn hx323 nb_hx323
            replace hq310 := (hq310.apn hx318 nb_hx318).apn hx323 nb_hx323
            replace hr313 := (hr313.apn hx318 nb_hx318).apn hx323 nb_hx323
            replace hb242 := hb242.exc hx323 (Nat.ne_of_lt lt_b240_b298)
            refine ⟨b240, b298, vn66, vd68, vr304, vq309, vr312, ?_, ?_, ?_, ?_, ?_, ?_, ?_, ?_, ?_, ?_, ?_, ?_, ?_, ?_, ?_, ?_, ?_, ?_, ?_⟩
            · exact (by repeat (first | exact hoff59 | refine Off.st ?_ (by decide) _))
            · exact rfl
            · exact ge_b240
            · exact lt_b7_b240
            · exact ge_b298
            · exact (Nat.lt_trans lt_b7_b240 lt_b240_b298)
            · exact (Nat.ne_of_lt lt_b240_b298)
            · exact hx
            · exact hdx
            · exact hE
            · exact hb4
            · exact hb9
            · exact hn67
            · exact hd69
            · exact hr305
            · exact hq310
            · exact hr313
            · exact hb242
            · exact hb300
        · refine RS.run rfl rfl rfl (by decide) (h_alloc (cs := [(.bool false), (.slice none 0 0)]) ty40 rfl) ?_ RS.nil
          rintro _ w327 ⟨b328, rfl, hs331, hb330, he329⟩
          refine ⟨.inr (.inr he329), RA.more (S' := fun u => Ext _ u) (fun u hu => Ext.trans he329 hu) ?_⟩
          replace hb9 := hb9.ext (Ext.trans he61 he65)
          have lt_b7_b328 := Nat.lt_of_lt_of_eq hb9.lt hs331.symm
          have ge_b328 : w.heap.size ≤ b328 := by rw [hs331]; exact hE.size
          replace hE := Below.ext hE hE.size he329
          refine RA.all [4, 10] (by kernel_rfl) rfl ?_
          replace hx := hx.tr (Sm.ext he329)
          replace hdx := hdx.tr (Sm.ext he329)
          refine RS.call rfl rfl rfl (by decide) (r_call (vl := [(.agg #[(.bool (sx)), vx, ux])]) ent39 rfl) (r03_den hx (by assumption) (by first | omega | simp) hdx (by assumption) (by first | omega | simp) (show ratOf sx (val x) (val dx) = qx from ex)) ?_ ?_
          · rintro _ w332 ⟨⟨vr334, rfl, hr335, hl336⟩, he333⟩
            refine ⟨.inr (.inr he333), RA.more (S' := fun u => Ext _ u) (fun u hu => Ext.trans he333 hu) ?_⟩
            replace hr335 := hr335.mono (D' := fun b T => w.heap.size ≤ b ∧ T = 52) (fun b T h => ⟨Nat.le_trans hE.size h.1, h.2⟩)
            replace hE := Below.ext hE hE.size he333
            refine RA.all [5, 10] (by kernel_rfl) rfl ?_
            replace hn67 := hn67.tr (Sm.ext (Ext.trans he329 he333))
            refine RS.call rfl rfl rfl (by decide) (r_call (vl := [(.agg #[(.bool (decide (qx.num < 0))), vn66]), (.agg #[(.bool (decide (((qx.den : Nat) : Int) < 0))), vr334])]) ent44 rfl) (r02_divmod hn67 (digs_lm _) (by first | omega | simp) (sg_canon _) hr335 (digs_lm _) (by first | omega | simp) (sg_canon _)) ?_ ?_
            · rintro _ w337 ⟨⟨vq339, vr342, rfl, hq340, hl341, hr343, hl344⟩, he338⟩
              refine ⟨.inr (.inr he338), RA.more (S' := fun u => Ext _ u) (fun u hu => Ext.trans he338 hu) ?_⟩
              replace hq340 := hq340.mono (D' := fun b T => w.heap.size ≤ b ∧ T = 52) (fun b T h => ⟨Nat.le_trans hE.size h.1, h.2⟩)
              replace hr343 := hr343.mono (D' := fun b T => w.heap.size ≤ b ∧ T = 52) (fun b T h => ⟨Nat.le_trans hE.size h.1, h.2⟩)
              replace hE := Below.ext hE hE.size he338
              refine RA.take 6 rfl (by kernel_rfl) rfl rfl (by decide) (fun _ => r_move_as (v := (.tuple #[(.agg #[(.bool (decide ((qx.num / ((qx.den : Nat) : Int)) < 0))), vq339]), (.agg #[(.bool (decide ((modI qx.num ((qx.den : Nat) : Int)) < 0))), vr342]), (.bool (decide (((qx.den : Nat) : Int) ≠ 0)))])) rfl) ?_
              refine RA.take 7 rfl (by kernel_rfl) rfl rfl (by decide) (fun _ => r_extract (v := (.agg #[(.bool (decide ((qx.num / ((qx.den : Nat) : Int)) < 0))), vq339])) rfl rfl) ?_
              refine RA.take 8 rfl (by kernel_rfl) rfl rfl (by decide) (fun _ => r_extract (v := (.agg #[(.bool (decide ((modI qx.num ((qx.den : Nat) : Int)) < 0))), vr342])) rfl rfl) ?_
              refine RA.take 9 rfl (by kernel_rfl) rfl rfl (by decide) (fun _ => r_extract (v := (.bool (decide (((qx.den : Nat) : Int) ≠ 0)))) rfl rfl) ?_
              refine RA.all [10] (by kernel_rfl) rfl ?_
              refine RS.run rfl rfl rfl (by decide) (h_alloc (cs := [(.bool false), (.slice none 0 0)]) ty40 rfl) ?_ RS.nil
              rintro _ w345 ⟨b346, rfl, hs349, hb348, he347⟩
              refine ⟨.inr (.inr he347), RA.more (S' := fun u => Ext _ u) (fun u hu => Ext.trans he347 hu) ?_⟩
              replace hb330 := hb330.ext (Ext.trans he333 he338)
              have lt_b328_b346 := Nat.lt_of_lt_of_eq hb330.lt hs349.symm
              have ge_b346 : w.heap.size ≤ b346 := by rw [hs349]; exact hE.size
              replace hE := Below.ext hE hE.size he347
              refine RA.all [12] (by kernel_rfl) rfl ?_
              refine RS.runs rfl rfl rfl (h_store (vv := (.agg #[(.bool (decide ((qx.num / ((qx.den : Nat) : Int)) < 0))), vq339])) (cs := [(.bool (decide ((qx.num / ((qx.den : Nat) : Int)) < 0))), vq339]) (o := 0) ty40 rfl rfl rfl rfl (one_cons rfl (one_cons hq340.one one_nil)) hb348 (Nat.le_of_ble_eq_true rfl)) ?_ RS.nil
              rintro w350 ⟨hn351, hx352, hz353⟩
              refine ⟨.inr (.inl (by kernel_rfl)), ?_⟩
              replace hE := Below.exc hE hE.size hx352 ge_b346
              have nb_hx352 := (Nb.of hb348 (nu_cons rfl (nu_cons rfl nu_nil)))
              replace hb348 : Bk w350 b346 40 [(.bool (decide ((qx.num / ((qx.den : Nat) : Int)) < 0))), vq339] := hn351
              refine RA.all [13] (by kernel_rfl) rfl ?_
              replace hb330 := (hb330.ext he347).exc hx352 (Nat.ne_of_lt lt_b328_b346)
              refine RS.runs rfl rfl rfl (h_store (vv := (.agg #[(.bool (decide ((modI qx.num ((qx.den : Nat) : Int)) < 0))), vr342])) (cs := [(.bool (decide ((modI qx.num ((qx.den : Nat) : Int)) < 0))), vr342]) (o := 0) ty40 rfl rfl rfl rfl (one_cons rfl (one_cons hr343.one one_nil)) hb330 (Nat.le_of_ble_eq_true rfl)) ?_ RS.nil
              rintro w354 ⟨hn355, hx356, hz357⟩
              refine ⟨.inr (.inl (by kernel_rfl)), ?_⟩
              replace hE := Below.exc hE hE.size hx356 ge_b328
              have nb_hx356 := (Nb.of hb330 (nu_cons rfl (nu_cons rfl nu_nil)))
              replace hb330 : Bk w354 b328 40 [(.bool (decide ((modI qx.num ((qx.den : Nat) : Int)) < 0))), vr342] := hn355
              refine RA.take 14 rfl (by kernel_rfl) rfl rfl (by decide) (fun _ => r_assign_as (v := (.bool (decide (((qx.den : Nat) : Int) ≠ 0)))) rfl) ?_
              refine RA.done (by kernel_rfl) ?_
              have hm358 := Ext.trans he333 (Ext.trans he338 he347)
              replace hx := ((hx.tr (Sm.ext hm358)).apn hx352 nb_hx352).apn hx356 nb_hx356
              replace hdx := ((hdx.tr (Sm.ext hm358)).apn hx352 nb_hx352).apn hx356 nb_hx356
              have hm359 := Ext.trans he65 (Ext.trans he329 (Ext.trans he333 (Ext.trans he338 he347)))
              replace hb4 := ((hb4.ext hm359).exc hx352 (Nat.ne_of_lt (Nat.lt_trans lt_b2_b7 (Nat.lt_trans lt_b7_b328 lt_b328_b346)))).exc hx356 (Nat.ne_of_lt (Nat.lt_trans lt_b2_b7 lt_b7_b328))
              have hm360 := Ext.trans he329 (Ext.trans he333 (Ext.trans he338 he347))
              replace hb9 := ((hb9.ext hm360).exc hx352 (Nat.ne_of_lt (Nat.lt_trans lt_b7_b328 lt_b328_b346))).exc hx356 (Nat.ne_of_lt lt_b7_b328)
              replace hn67 := ((hn67.tr (Sm.ext (Ext.trans he338 he347))).apn hx352 nb_hx352).apn hx356 nb_hx356
              replace hd69 := ((hd69.tr (Sm.ext hm360)).apn hx352 nb_hx352).apn hx356 nb_hx356
              replace hr335 := ((hr335.tr (Sm.ext (Ext.trans he338 he347))).apn hx352 nb_hx352).apn hx356 nb_hx356
              replace hq340 := ((hq340.tr (Sm.ext he347)).apn hx352 nb_hx352).apn hx356 nb_hx356
              replace hr343 := ((hr343.tr (Sm.ext he347)).apn hx352 nb_hx352).apn hx356 nb_hx356
              replace hb348 := hb348.exc hx356 (Nat.ne_of_gt lt_b328_b346)
              refine ⟨b346, b328, vn66, vd68, vr334, vq339, vr342, ?_, ?_, ?_, ?_, ?_, ?_, ?_, ?_, ?_, ?_, ?_, ?_, ?_, ?_, ?_, ?_, ?_, ?_, ?_⟩
              · exact (by repeat (first | exact hoff59 | refine Off.st ?_ (by decide) _))
              · exact rfl
              · exact ge_b346
              · exact (Nat.lt_trans lt_b7_b328 lt_b328_b346)
              · exact ge_b328
              · exact lt_b7_b328
              · exact (Nat.ne_of_gt lt_b328_b346)
              · exact hx
              · exact hdx
              · exact hE
              · exact hb4
              · exact hb9
              · exact hn67
              · exact hd69
              · exact hr335
              · exact hq340
              · exact hr343
              · exact hb348
              · exact hb330
            · refine RS.run rfl rfl rfl (by decide) (h_alloc (cs := [(.bool false), (.slice none 0 0)]) ty40 rfl) ?_ RS.nil
              rintro _ w361 ⟨b362, rfl, hs365, hb364, he363⟩
              refine ⟨.inr (.inr he363), RA.more (S' := fun u => Ext _ u) (fun u hu => Ext.trans he363 hu) ?_⟩
              replace hb330 := hb330.ext he333
              have lt_b328_b362 := Nat.lt_of_lt_of_eq hb330.lt hs365.symm
              have ge_b362 : w.heap.size ≤ b362 := by rw [hs365]; exact hE.size
              replace hE := Below.ext hE hE.size he363
              refine RA.all [5] (by kernel_rfl) rfl ?_
              replace hn67 := hn67.tr (Sm.ext he363)
              replace hr335 := hr335.tr (Sm.ext he363)
              refine RS.call rfl rfl rfl (by decide) (r_call (vl := [(.agg #[(.bool (decide (qx.num < 0))), vn66]), (.agg #[(.bool (decide (((qx.den : Nat) : Int) < 0))), vr334])]) ent44 rfl) (r02_divmod hn67 (digs_lm _) (by first | omega | simp) (sg_canon _) hr335 (digs_lm _) (by first | omega | simp) (sg_canon _)) ?_ RS.nil
              rintro _ w366 ⟨⟨vq368, vr371, rfl, hq369, hl370, hr372, hl373⟩, he367⟩
              refine ⟨.inr (.inr he367), RA.more (S' := fun u => Ext _ u) (fun u hu => Ext.trans he367 hu) ?_⟩
              replace hq369 := hq369.mono (D' := fun b T => w.heap.size ≤ b ∧ T = 52) (fun b T h => ⟨Nat.le_trans hE.size h.1, h.2⟩)
              replace hr372 := hr372.mono (D' := fun b T => w.heap.size ≤ b ∧ T = 52) (fun b T h => ⟨Nat.le_trans hE.size h.1, h.2⟩)
              replace hE := Below.ext hE hE.size he367
              refine RA.take 6 rfl (by kernel_rfl) rfl rfl (by decide) (fun _ => r_move_as (v := (.tuple #[(.agg #[(.bool (decide ((qx.num / ((qx.den : Nat) : Int)) < 0))), vq368]), (.agg #[(.bool (decide ((modI qx.num ((qx.den : Nat) : Int)) < 0))), vr371]), (.bool (decide (((qx.den : Nat) : Int) ≠ 0)))])) rfl) ?_
              refine RA.take 7 rfl (by kernel_rfl) rfl rfl (by decide) (fun _ => r_extract (v := (.agg #[(.bool (decide ((qx.num / ((qx.den : Nat) : Int)) < 0))), vq368])) rfl rfl) ?_
              refine RA.take 8 rfl (by kernel_rfl) rfl rfl (by decide) (fun _ => r_extract (v := (.agg #[(.bool (decide ((modI qx.num ((qx.den : Nat) : Int)) < 0))), vr371])) rfl rfl) ?_
              refine RA.take 9 rfl (by kernel_rfl) rfl rfl (by decide) (fun _ => r_extract (v := (.bool (decide (((qx.den : Nat) : Int) ≠ 0)))) rfl rfl) ?_
              refine RA.all [12] (by kernel_rfl) rfl ?_
              replace hb364 := hb364.ext he367
              refine RS.runs rfl rfl rfl (h_store (vv := (.agg #[(.bool (decide ((qx.num / ((qx.den : Nat) : Int)) < 0))), vq368])) (cs := [(.bool (decide ((qx.num / ((qx.den : Nat) : Int)) < 0))), vq368]) (o := 0) ty40 rfl rfl rfl rfl (one_cons rfl (one_cons hq369.one one_nil)) hb364 (Nat.le_of_ble_eq_true rfl)) ?_ RS.nil
              rintro w374 ⟨hn375, hx376, hz377⟩
              refine ⟨.inr (.inl (by kernel_rfl)), ?_⟩
              replace hE := Below.exc hE hE.size hx376 ge_b362
              have nb_hx376 := (Nb.of hb364 (nu_cons rfl (nu_cons rfl nu_nil)))
              replace hb364 : Bk w374 b362 40 [(.bool (decide ((qx.num / ((qx.den : Nat) : Int)) < 0))), vq368] := hn375
              refine RA.all [13] (by kernel_rfl) rfl ?_
              replace hb330 := (hb330.ext (Ext.trans he363 he367)).exc hx376 (Nat.ne_of_lt lt_b328_b362)
              refine RS.runs rfl rfl rfl (h_store (vv := (.agg #[(.bool (decide ((modI qx.num ((qx.den : Nat) : Int)) < 0))), vr371])) (cs := [(.bool (decide ((modI qx.num ((qx.den : Nat) : Int)) < 0))), vr371]) (o := 0) ty40 rfl rfl rfl rfl (one_cons rfl (one_cons hr372.one one_nil)) hb330 (Nat.le_of_ble_eq_true rfl)) ?_ RS.nil
              rintro w378 ⟨hn379, hx380, hz381⟩
              refine ⟨.inr (.inl (by kernel_rfl)), ?_⟩
              replace hE := Below.exc hE hE.size hx380 ge_b328
              have nb_hx380 := (Nb.of hb330 (nu_cons rfl (nu_cons rfl nu_nil)))
              replace hb330 : Bk w378 b328 40 [(.bool (decide ((modI qx.num ((qx.den : Nat) : Int)) < 0))), vr371] := hn379
              refine RA.take 14 rfl (by kernel_rfl) rfl rfl (by decide) (fun _ => r_assign_as (v := (.bool (decide (((qx.den : Nat) : Int) ≠ 0)))) rfl) ?_
              refine RA.done (by kernel_rfl) ?_
              have hm382 := Ext.trans he333 (Ext.trans he363 he367)
              replace hx := ((hx.tr (Sm.ext hm382)).apn hx376 nb_hx376).apn hx380 nb_hx380
              replace hdx := ((hdx.tr (Sm.ext hm382)).apn hx376 nb_hx376).apn hx380 nb_hx380
              have hm383 := Ext.trans he65 (Ext.trans he329 (Ext.trans he333 (Ext.trans he363 he367)))
              replace hb4 := ((hb4.ext hm383).exc hx376 (Nat.ne_of_lt (Nat.lt_trans lt_b2_b7 (Nat.lt_trans lt_b7_b328 lt_b328_b362)))).exc hx380 (Nat.ne_of_lt (Nat.lt_trans lt_b2_b7 lt_b7_b328))
              have hm384 := Ext.trans he329 (Ext.trans he333 (Ext.trans he363 he367))
              replace hb9 := ((hb9.ext hm384).exc hx376 (Nat.ne_of_lt (Nat.lt_trans lt_b7_b328 lt_b328_b362))).exc hx380 (Nat.ne_of_lt lt_b7_b328)
              replace hn67 := ((hn67.tr (Sm.ext he367)).apn hx376 nb_hx376).apn hx380 nb_hx380
              replace hd69 := ((hd69.tr (Sm.ext hm384)).apn hx376 nb_hx376).apn hx380 nb_hx380
              replace hr335 := ((hr335.tr (Sm.ext he367)).apn hx376 nb_hx376).apn hx380 nb_hx380
              replace hq369 := (hq369.apn hx376 nb_hx376).apn hx380 nb_hx380
              replace hr372 := (hr372.apn hx376 nb_hx376).apn hx380 nb_hx380
              replace hb364 := hb364.exc hx380 (Nat.ne_of_gt lt_b328_b362)
              refine ⟨b362, b328, vn66, vd68, vr334, vq368, vr371, ?_, ?_, ?_, ?_, ?_, ?_, ?_, ?_, ?_, ?_, ?_, ?_, ?_, ?_, ?_, ?_, ?_, ?_, ?_⟩
              · exact (by repeat (first | exact hoff59 | refine Off.st ?_ (by decide) _))
              · exact rfl
              · exact ge_b362
              · exact (Nat.lt_trans lt_b7_b328 lt_b328_b362)
              · exact ge_b328
              · exact lt_b7_b328
              · exact (Nat.ne_of_gt lt_b328_b362)
              · exact hx
              · exact hdx
              · exact hE
              · exact hb4
              · exact hb9
              · exact hn67
              · exact hd69
              · exact hr335
              · exact hq369
              · exact hr372
              · exact hb364
              · exact hb330
          · refine RS.run rfl rfl rfl (by decide) (h_alloc (cs := [(.bool false), (.slice none 0 0)]) ty40 rfl) ?_ RS.nil
            rintro _ w385 ⟨b386, rfl, hs389, hb388, he387⟩
            refine ⟨.inr (.inr he387), RA.more (S' := fun u => Ext _ u) (fun u hu => Ext.trans he387 hu) ?_⟩
            have lt_b328_b386 := Nat.lt_of_lt_of_eq hb330.lt hs389.symm
            have ge_b386 : w.heap.size ≤ b386 := by rw [hs389]; exact hE.size
            replace hE := Below.ext hE hE.size he387
            refine RA.all [4] (by kernel_rfl) rfl ?_
            replace hx := hx.tr (Sm.ext he387)
            replace hdx := hdx.tr (Sm.ext he387)
            refine RS.call rfl rfl rfl (by decide) (r_call (vl := [(.agg #[(.bool (sx)), vx, ux])]) ent39 rfl) (r03_den hx (by assumption) (by first | omega | simp) hdx (by assumption) (by first | omega | simp) (show ratOf sx (val x) (val dx) = qx from ex)) ?_ RS.nil
            rintro _ w390 ⟨⟨vr392, rfl, hr393, hl394⟩, he391⟩
            refine ⟨.inr (.inr he391), RA.more (S' := fun u => Ext _ u) (fun u hu => Ext.trans he391 hu) ?_⟩
            replace hr393 := hr393.mono (D' := fun b T => w.heap.size ≤ b ∧ T = 52) (fun b T h => ⟨Nat.le_trans hE.size h.1, h.2⟩)
            replace hE := Below.ext hE hE.size he391
            refine RA.all [5] (by kernel_rfl) rfl ?_
            have hm403 := Ext.trans he329 (Ext.trans he387 he391)
            replace hn67 := hn67.tr (Sm.ext hm403)
            refine RS.call rfl rfl rfl (by decide) (r_call (vl := [(.agg #[(.bool (decide (qx.num < 0))), vn66]), (.agg #[(.bool (decide (((qx.den : Nat) : Int) < 0))), vr392])]) ent44 rfl) (r02_divmod hn67 (digs_lm _) (by first | omega | simp) (sg_canon _) hr393 (digs_lm _) (by first | omega | simp) (sg_canon _)) ?_ RS.nil
            rintro _ w395 ⟨⟨vq397, vr400, rfl, hq398, hl399, hr401, hl402⟩, he396⟩
            refine ⟨.inr (.inr he396), RA.more (S' := fun u => Ext _ u) (fun u hu => Ext.trans he396 hu) ?_⟩
            replace hq398 := hq398.mono (D' := fun b T => w.heap.size ≤ b ∧ T = 52) (fun b T h => ⟨Nat.le_trans hE.size h.1, h.2⟩)
            replace hr401 := hr401.mono (D' := fun b T => w.heap.size ≤ b ∧ T = 52) (fun b T h => ⟨Nat.le_trans hE.size h.1, h.2⟩)
            replace hE := Below.ext hE hE.size he396
            refine RA.take 6 rfl (by kernel_rfl) rfl rfl (by decide) (fun _ => r_move_as (v := (.tuple #[(.agg #[(.bool (decide ((qx.num / ((qx.den : Nat) : Int)) < 0))), vq397]), (.agg #[(.bool (decide ((modI qx.num ((qx.den : Nat) : Int)) < 0))), vr400]), (.bool (decide (((qx.den : Nat) : Int) ≠ 0)))])) rfl) ?_
            refine RA.take 7 rfl (by kernel_rfl) rfl rfl (by decide) (fun _ => r_extract (v := (.agg #[(.bool (decide ((qx.num / ((qx.den : Nat) : Int)) < 0))), vq397])) rfl rfl) ?_
            refine RA.take 8 rfl (by kernel_rfl) rfl rfl (by decide) (fun _ => r_extract (v := (.agg #[(.bool (decide ((modI qx.num ((qx.den : Nat) : Int)) < 0))), vr400])) rfl rfl) ?_
            refine RA.take 9 rfl (by kernel_rfl) rfl rfl (by decide) (fun _ => r_extract (v := (.bool (decide (((qx.den : Nat) : Int) ≠ 0)))) rfl rfl) ?_
            refine RA.all [12] (by kernel_rfl) rfl ?_
            replace hb388 := hb388.ext (Ext.trans he391 he396)
            refine RS.runs rfl rfl rfl (h_store (vv := (.agg #[(.bool (decide ((qx.num / ((qx.den : Nat) : Int)) < 0))), vq397])) (cs := [(.bool (decide ((qx.num / ((qx.den : Nat) : Int)) < 0))), vq397]) (o := 0) ty40 rfl rfl rfl rfl (one_cons rfl (one_cons hq398.one one_nil)) hb388 (Nat.le_of_ble_eq_true rfl)) ?_ RS.nil
            rintro w404 ⟨hn405, hx406, hz407⟩
            refine ⟨.inr (.inl (by kernel_rfl)), ?_⟩
            replace hE := Below.exc hE hE.size hx406 ge_b386
            have nb_hx406 := (Nb.of hb388 (nu_cons rfl (nu_cons rfl nu_nil)))
            replace hb388 : Bk w404 b386 40 [(.bool (decide ((qx.num / ((qx.den : Nat) : Int)) < 0))), vq397] := hn405
            refine RA.all [13] (by kernel_rfl) rfl ?_
            have hm412 := Ext.trans he387 (Ext.trans he391 he396)
            replace hb330 := (hb330.ext hm412).exc hx406 (Nat.ne_of_lt lt_b328_b386)
            refine RS.runs rfl rfl rfl (h_store (vv := (.agg #[(.bool (decide ((modI qx.num ((qx.den : Nat) : Int)) < 0))), vr400])) (cs := [(.bool (decide ((modI qx.num ((qx.den : Nat) : Int)) < 0))), vr400]) (o := 0) ty40 rfl rfl rfl rfl (one_cons rfl (one_cons hr401.one one_nil)) hb330 (Nat.le_of_ble_eq_true rfl)) ?_ RS.nil
            rintro w408 ⟨hn409, hx410, hz411⟩
            refine ⟨.inr (.inl (by kernel_rfl)), ?_⟩
            replace hE := Below.exc hE hE.size hx410 ge_b328
            have nb_hx410 := (Nb.of hb330 (nu_cons rfl (nu_cons rfl nu_nil)))
            replace hb330 : Bk w408 b328 40 [(.bool (decide ((modI qx.num ((qx.den : Nat) : Int)) < 0))), vr400] := hn409
            refine RA.take 14 rfl (by kernel_rfl) rfl rfl (by decide) (fun _ => r_assign_as (v := (.bool (decide (((qx.den : Nat) : Int) ≠ 0)))) rfl) ?_
            refine RA.done (by kernel_rfl) ?_
            replace hx := ((hx.tr (Sm.ext (Ext.trans he391 he396))).apn hx406 nb_hx406).apn hx410 nb_hx410
            replace hdx := ((hdx.tr (Sm.ext (Ext.trans he391 he396))).apn hx406 nb_hx406).apn hx410 nb_hx410
            have hm413 := Ext.trans he65 (Ext.trans he329 (Ext.trans he387 (Ext.trans he391 he396)))
            replace hb4 := ((hb4.ext hm413).exc hx406 (Nat.ne_of_lt (Nat.lt_trans lt_b2_b7 (Nat.lt_trans lt_b7_b328 lt_b328_b386)))).exc hx410 (Nat.ne_of_lt (Nat.lt_trans lt_b2_b7 lt_b7_b328))
            have hm414 := Ext.trans hm403 he396
            replace hb9 := ((hb9.ext hm414).exc hx406 (Nat.ne_of_lt (Nat.lt_trans lt_b7_b328 lt_b328_b386))).exc hx410 (Nat.ne_of_lt lt_b7_b328)
            replace hn67 := ((hn67.tr (Sm.ext he396)).apn hx406 nb_hx406).apn hx410 nb_hx410
            replace hd69 := ((hd69.tr (Sm.ext hm414)).apn hx406 nb_hx406).apn hx410 nb_hx410
            replace hr393 := ((hr393.tr (Sm.ext he396)).apn hx406 nb_hx406).apn hx410 nb_hx410
            replace hq398 := (hq398.apn hx406 nb_hx406).apn hx410 nb_hx410
            replace hr401 := (hr401.apn hx406 nb_hx406).apn hx410 nb_hx410
            replace hb388 := hb388.exc hx410 (Nat.ne_of_gt lt_b328_b386)
            refine ⟨b386, b328, vn66, vd68, vr392, vq397, vr400, ?_, ?_, ?_, ?_, ?_, ?_, ?_, ?_, ?_, ?_, ?_, ?_, ?_, ?_, ?_, ?_, ?_, ?_, ?_⟩
            · exact (by repeat (first | exact hoff59 | refine Off.st ?_ (by decide) _))
            · exact rfl
            · exact ge_b386
            · exact (Nat.lt_trans lt_b7_b328 lt_b328_b386)
            · exact ge_b328
            · exact lt_b7_b328
            · exact (Nat.ne_of_gt lt_b328_b386)
            · exact hx
            · exact hdx
            · exact hE
            · exact hb4
            · exact hb9
            · exact hn67
            · exact hd69
            · exact hr393
            · exact hq398
            · exact hr401
            · exact hb388
            · exact hb330
    · refine RS.run rfl rfl rfl (by decide) (h_alloc (cs := [(.bool false), (.slice none 0 0)]) ty40 rfl) ?_ ?_
      · rintro _ w415 ⟨b416, rfl, hs419, hb418, he417⟩
        refine ⟨.inr (.inr he417), RA.more (S' := fun u => Ext _ u) (fun u hu => Ext.trans he417 hu) ?_⟩
        replace hb9 := hb9.ext he61
        have lt_b7_b416 := Nat.lt_of_lt_of_eq hb9.lt hs419.symm
        have ge_b416 : w.heap.size ≤ b416 := by rw [hs419]; exact hE.size
        replace hE := Below.ext hE hE.size he417
        refine RA.all [1, 11] (by kernel_rfl) rfl ?_
        replace hx := hx.tr (Sm.ext he417)
        replace hdx := hdx.tr (Sm.ext he417)
        refine RS.call rfl rfl rfl (by decide) (r_call (vl := [(.agg #[(.bool (sx)), vx, ux])]) ent38 rfl) (r03_norm hx (by assumption) (by first | omega | simp) hdx (by assumption) (by first | omega | simp) (show ratOf sx (val x) (val dx) = qx from ex)) ?_ ?_
        · rintro _ w420 ⟨⟨vn422, vd424, rfl, hn423, hd425, hl426, hl427⟩, he421⟩
          refine ⟨.inr (.inr he421), RA.more (S' := fun u => Ext _ u) (fun u hu => Ext.trans he421 hu) ?_⟩
          have hlv428 := den_one qx
          replace hn423 := hn423.mono (D' := fun b T => w.heap.size ≤ b ∧ T = 52) (fun b T h => ⟨Nat.le_trans hE.size h.1, h.2⟩)
          replace hd425 := hd425.mono (D' := fun b T => w.heap.size ≤ b ∧ T = 52) (fun b T h => ⟨Nat.le_trans hE.size h.1, h.2⟩)
          replace hE := Below.ext hE hE.size he421
          refine RA.take 2 rfl (by kernel_rfl) rfl rfl (by decide) (fun _ => r_fielda Try.underlying42 rfl Try.underlying40 ag40 ty40 rfl) ?_
          refine RA.all [4, 11] (by kernel_rfl) rfl ?_
          replace hx := hx.tr (Sm.ext he421)
          replace hdx := hdx.tr (Sm.ext he421)
          refine RS.call rfl rfl rfl (by decide) (r_call (vl := [(.agg #[(.bool (sx)), vx, ux])]) ent39 rfl) (r03_den hx (by assumption) (by first | omega | simp) hdx (by assumption) (by first | omega | simp) (show ratOf sx (val x) (val dx) = qx from ex)) ?_ ?_
          · rintro _ w429 ⟨⟨vr431, rfl, hr432, hl433⟩, he430⟩
            refine ⟨.inr (.inr he430), RA.more (S' := fun u => Ext _ u) (fun u hu => Ext.trans he430 hu) ?_⟩
            replace hr432 := hr432.mono (D' := fun b T => w.heap.size ≤ b ∧ T = 52) (fun b T h => ⟨Nat.le_trans hE.size h.1, h.2⟩)
            replace hE := Below.ext hE hE.size he430
            refine RA.all [5, 11] (by kernel_rfl) rfl ?_
            replace hn423 := hn423.tr (Sm.ext he430)
            refine RS.call rfl rfl rfl (by decide) (r_call (vl := [(.agg #[(.bool (decide (qx.num < 0))), vn422]), (.agg #[(.bool (decide (((qx.den : Nat) : Int) < 0))), vr431])]) ent44 rfl) (r02_divmod hn423 (digs_lm _) (by first | omega | simp) (sg_canon _) hr432 (digs_lm _) (by first | omega | simp) (sg_canon _)) ?_ ?_
            · rintro _ w434 ⟨⟨vq436, vr439, rfl, hq437, hl438, hr440, hl441⟩, he435⟩
              refine ⟨.inr (.inr he435), RA.more (S' := fun u => Ext _ u) (fun u hu => Ext.trans he435 hu) ?_⟩
              replace hq437 := hq437.mono (D' := fun b T => w.heap.size ≤ b ∧ T = 52) (fun b T h => ⟨Nat.le_trans hE.size h.1, h.2⟩)
              replace hr440 := hr440.mono (D' := fun b T => w.heap.size ≤ b ∧ T = 52) (fun b T h => ⟨Nat.le_trans hE.size h.1, h.2⟩)
              replace hE := Below.ext hE hE.size he435
              refine RA.take 6 rfl (by kernel_rfl) rfl rfl (by decide) (fun _ => r_move_as (v := (.tuple #[(.agg #[(.bool (decide ((qx.num / ((qx.den : Nat) : Int)) < 0))), vq436]), (.agg #[(.bool (decide ((modI qx.num ((qx.den : Nat) : Int)) < 0))), vr439]), (.bool (decide (((qx.den : Nat) : Int) ≠ 0)))])) rfl) ?_
              refine RA.take 7 rfl (by kernel_rfl) rfl rfl (by decide) (fun _ => r_extract (v := (.agg #[(.bool (decide ((qx.num / ((qx.den : Nat) : Int)) < 0))), vq436])) rfl rfl) ?_
              refine RA.take 8 rfl (by kernel_rfl) rfl rfl (by decide) (fun _ => r_extract (v := (.agg #[(.bool (decide ((modI qx.num ((qx.den : Nat) : Int)) < 0))), vr439])) rfl rfl) ?_
              refine RA.take 9 rfl (by kernel_rfl) rfl rfl (by decide) (fun _ => r_extract (v := (.bool (decide (((qx.den : Nat) : Int) ≠ 0)))) rfl rfl) ?_
              refine RA.all [11] (by kernel_rfl) rfl ?_
              refine RS.run rfl rfl rfl (by decide) (h_alloc (cs := [(.bool false), (.slice none 0 0)]) ty40 rfl) ?_ RS.nil
              rintro _ w442 ⟨b443, rfl, hs446, hb445, he444⟩
              refine ⟨.inr (.inr he444), RA.more (S' := fun u => Ext _ u) (fun u hu => Ext.trans he444 hu) ?_⟩
              have hm447 := Ext.trans he421 (Ext.trans he430 he435)
              replace hb418 := hb418.ext hm447
              have lt_b416_b443 := Nat.lt_of_lt_of_eq hb418.lt hs446.symm
              have ge_b443 : w.heap.size ≤ b443 := by rw [hs446]; exact hE.size
              replace hE := Below.ext hE hE.size he444
              refine RA.all [12] (by kernel_rfl) rfl ?_
              replace hb418 := hb418.ext he444
              refine RS.runs rfl rfl rfl (h_store (vv := (.agg #[(.bool (decide ((qx.num / ((qx.den : Nat) : Int)) < 0))), vq436])) (cs := [(.bool (decide ((qx.num / ((qx.den : Nat) : Int)) < 0))), vq436]) (o := 0) ty40 rfl rfl rfl rfl (one_cons rfl (one_cons hq437.one one_nil)) hb418 (Nat.le_of_ble_eq_true rfl)) ?_ RS.nil
              rintro w448 ⟨hn449, hx450, hz451⟩
              refine ⟨.inr (.inl (by kernel_rfl)), ?_⟩
              replace hE := Below.exc hE hE.size hx450 ge_b416
              have nb_hx450 := (Nb.of hb418 (nu_cons rfl (nu_cons rfl nu_nil)))
              replace hb418 : Bk w448 b416 40 [(.bool (decide ((qx.num / ((qx.den : Nat) : Int)) < 0))), vq436] := hn449
              refine RA.all [13] (by kernel_rfl) rfl ?_
              replace hb445 := hb445.exc hx450 (Nat.ne_of_gt lt_b416_b443)
              refine RS.runs rfl rfl rfl (h_store (vv := (.agg #[(.bool (decide ((modI qx.num ((qx.den : Nat) : Int)) < 0))), vr439])) (cs := [(.bool (decide ((modI qx.num ((qx.den : Nat) : Int)) < 0))), vr439]) (o := 0) ty40 rfl rfl rfl rfl (one_cons rfl (one_cons hr440.one one_nil)) hb445 (Nat.le_of_ble_eq_true rfl)) ?_ RS.nil
              rintro w452 ⟨hn453, hx454, hz455⟩
              refine ⟨.inr (.inl (by kernel_rfl)), ?_⟩
              replace hE := Below.exc hE hE.size hx454 ge_b443
              have nb_hx454 := (Nb.of hb445 (nu_cons rfl (nu_cons rfl nu_nil)))
              replace hb445 : Bk w452 b443 40 [(.bool (decide ((modI qx.num ((qx.den : Nat) : Int)) < 0))), vr439] := hn453
              refine RA.take 14 rfl (by kernel_rfl) rfl rfl (by decide) (fun _ => r_assign_as (v := (.bool (decide (((qx.den : Nat) : Int) ≠ 0)))) rfl) ?_
              refine RA.done (by kernel_rfl) ?_
              have hm456 := Ext.trans he430 (Ext.trans he435 he444)
              replace hx := ((hx.tr (Sm.ext hm456)).apn hx450 nb_hx450).apn hx454 nb_hx454
              replace hdx := ((hdx.tr (Sm.ext hm456)).apn hx450 nb_hx450).apn hx454 nb_hx454
              have hm457 := Ext.trans he417 (Ext.trans he421 (Ext.trans he430 (Ext.trans he435 he444)))
              replace hb4 := ((hb4.ext hm457).exc hx450 (Nat.ne_of_lt (Nat.lt_trans lt_b2_b7 lt_b7_b416))).exc hx454 (Nat.ne_of_lt (Nat.lt_trans lt_b2_b7 (Nat.lt_trans lt_b7_b416 lt_b416_b443)))
              replace hb9 := ((hb9.ext hm457).exc hx450 (Nat.ne_of_lt lt_b7_b416)).exc hx454 (Nat.ne_of_lt (Nat.lt_trans lt_b7_b416 lt_b416_b443))
              replace hn423 := ((hn423.tr (Sm.ext (Ext.trans he435 he444))).apn hx450 nb_hx450).apn hx454 nb_hx454
              replace hd425 := ((hd425.tr (Sm.ext hm456)).apn hx450 nb_hx450).apn hx454 nb_hx454
              replace hr432 := ((hr432.tr (Sm.ext (Ext.trans he435 he444))).apn hx450 nb_hx450).apn hx454 nb_hx454
              replace hq437 := ((hq437.tr (Sm.ext he444)).apn hx450 nb_hx450).apn hx454 nb_hx454
              replace hr440 := ((hr440.tr (Sm.ext he444)).apn hx450 nb_hx450).apn hx454 nb_hx454
              replace hb418 := hb418.exc hx454 (Nat.ne_of_lt lt_b416_b443)
              refine ⟨b416, b443, vn422, vd424, vr431, vq436, vr439, ?_, ?_, ?_, ?_, ?_, ?_, ?_, ?_, ?_, ?_, ?_, ?_, ?_, ?_, ?_, ?_, ?_, ?_, ?_⟩
              · exact (by repeat (first | exact hoff59 | refine Off.st ?_ (by decide) _))
              · exact rfl
              · exact ge_b416
              · exact lt_b7_b416
              · exact ge_b443
              · exact (Nat.lt_trans lt_b7_b416 lt_b416_b443)
              · exact (Nat.ne_of_lt lt_b416_b443)
              · exact hx
              · exact hdx
              · exact hE
              · exact hb4
              · exact hb9
              · exact hn423
              · exact hd425
              · exact hr432
              · exact hq437
              · exact hr440
              · exact hb418
              · exact hb445
            · refine RS.run rfl rfl rfl (by decide) (h_alloc (cs := [(.bool false), (.slice none 0 0)]) ty40 rfl) ?_ RS.nil
              rintro _ w458 ⟨b459, rfl, hs462, hb461, he460⟩
              refine ⟨.inr (.inr he460), RA.more (S' := fun u => Ext _ u) (fun u hu => Ext.trans he460 hu) ?_⟩
              replace hb418 := hb418.ext (Ext.trans he421 he430)
              have lt_b416_b459 := Nat.lt_of_lt_of_eq hb418.lt hs462.symm
              have ge_b459 : w.heap.size ≤ b459 := by rw [hs462]; exact hE.size
              replace hE := Below.ext hE hE.size he460
              refine RA.all [5] (by kernel_rfl) rfl ?_
              replace hn423 := hn423.tr (Sm.ext he460)
              replace hr432 := hr432.tr (Sm.ext he460)
              refine RS.call rfl rfl rfl (by decide) (r_call (vl := [(.agg #[(.bool (decide (qx.num < 0))), vn422]), (.agg #[(.bool (decide (((qx.den : Nat) : Int) < 0))), vr431])]) ent44 rfl) (r02_divmod hn423 (digs_lm _) (by first | omega | simp) (sg_canon _) hr432 (digs_lm _) (by first | omega | simp) (sg_canon _)) ?_ RS.nil
              rintro _ w463 ⟨⟨vq465, vr468, rfl, hq466, hl467, hr469, hl470⟩, he464⟩
              refine ⟨.inr (.inr he464), RA.more (S' := fun u => Ext _ u) (fun u hu => Ext.trans he464 hu) ?_⟩
              replace hq466 := hq466.mono (D' := fun b T => w.heap.size ≤ b ∧ T = 52) (fun b T h => ⟨Nat.le_trans hE.size h.1, h.2⟩)
              replace hr469 := hr469.mono (D' := fun b T => w.heap.size ≤ b ∧ T = 52) (fun b T h => ⟨Nat.le_trans hE.size h.1, h.2⟩)
              replace hE := Below.ext hE hE.size he464
              refine RA.take 6 rfl (by kernel_rfl) rfl rfl (by decide) (fun _ => r_move_as (v := (.tuple #[(.agg #[(.bool (decide ((qx.num / ((qx.den : Nat) : Int)) < 0))), vq465]), (.agg #[(.bool (decide ((modI qx.num ((qx.den : Nat) : Int)) < 0))), vr468]), (.bool (decide (((qx.den : Nat) : Int) ≠ 0)))])) rfl) ?_
              refine RA.take 7 rfl (by kernel_rfl) rfl rfl (by decide) (fun _ => r_extract (v := (.agg #[(.bool (decide ((qx.num / ((qx.den : Nat) : Int)) < 0))), vq465])) rfl rfl) ?_
              refine RA.take 8 rfl (by kernel_rfl) rfl rfl (by decide) (fun _ => r_extract (v := (.agg #[(.bool (decide ((modI qx.num ((qx.den : Nat) : Int)) < 0))), vr468])) rfl rfl) ?_
              refine RA.take 9 rfl (by kernel_rfl) rfl rfl (by decide) (fun _ => r_extract (v := (.bool (decide (((qx.den : Nat) : Int) ≠ 0)))) rfl rfl) ?_
              refine RA.all [12] (by kernel_rfl) rfl ?_
              replace hb418 := hb418.ext (Ext.trans he460 he464)
              refine RS.runs rfl rfl rfl (h_store (vv := (.agg #[(.bool (decide ((qx.num / ((qx.den : Nat) : Int)) < 0))), vq465])) (cs := [(.bool (decide ((qx.num / ((qx.den : Nat) : Int)) < 0))), vq465]) (o := 0) ty40 rfl rfl rfl rfl (one_cons rfl (one_cons hq466.one one_nil)) hb418 (Nat.le_of_ble_eq_true rfl)) ?_ RS.nil
              rintro w471 ⟨hn472, hx473, hz474⟩
              refine ⟨.inr (.inl (by kernel_rfl)), ?_⟩
              replace hE := Below.exc hE hE.size hx473 ge_b416
              have nb_hx473 := (Nb.of hb418 (nu_cons rfl (nu_cons rfl nu_nil)))
              replace hb418 : Bk w471 b416 40 [(.bool (decide ((qx.num / ((qx.den : Nat) : Int)) < 0))), vq465] := hn472
              refine RA.all [13] (by kernel_rfl) rfl ?_
              replace hb461 := (hb461.ext he464).exc hx473 (Nat.ne_of_gt lt_b416_b459)
              refine RS.runs rfl rfl rfl (h_store (vv := (.agg #[(.bool (decide ((modI qx.num ((qx.den : Nat) : Int)) < 0))), vr468])) (cs := [(.bool (decide ((modI qx.num ((qx.den : Nat) : Int)) < 0))), vr468]) (o := 0) ty40 rfl rfl rfl rfl (one_cons rfl (one_cons hr469.one one_nil)) hb461 (Nat.le_of_ble_eq_true rfl)) ?_ RS.nil
              rintro w475 ⟨hn476, hx477, hz478⟩
              refine ⟨.inr (.inl (by kernel_rfl)), ?_⟩
              replace hE := Below.exc hE hE.size hx477 ge_b459
              have nb_hx477 := (Nb.of hb461 (nu_cons rfl (nu_cons rfl nu_nil)))
              replace hb461 : Bk w475 b459 40 [(.bool (decide ((modI qx.num ((qx.den : Nat) : Int)) < 0))), vr468] := hn476
              refine RA.take 14 rfl (by kernel_rfl) rfl rfl (by decide) (fun _ => r_assign_as (v := (.bool (decide (((qx.den : Nat) : Int) ≠ 0)))) rfl) ?_
              refine RA.done (by kernel_rfl) ?_
              have hm479 := Ext.trans he430 (Ext.trans he460 he464)
              replace hx := ((hx.tr (Sm.ext hm479)).apn hx473 nb_hx473).apn hx477 nb_hx477
              replace hdx := ((hdx.tr (Sm.ext hm479)).apn hx473 nb_hx473).apn hx477 nb_hx477
              have hm480 := Ext.trans he417 (Ext.trans he421 (Ext.trans he430 (Ext.trans he460 he464)))
              replace hb4 := ((hb4.ext hm480).exc hx473 (Nat.ne_of_lt (Nat.lt_trans lt_b2_b7 lt_b7_b416))).exc hx477 (Nat.ne_of_lt (Nat.lt_trans lt_b2_b7 (Nat.lt_trans lt_b7_b416 lt_b416_b459)))
              replace hb9 := ((hb9.ext hm480).exc hx473 (Nat.ne_of_lt lt_b7_b416)).exc hx477 (Nat.ne_of_lt (Nat.lt_trans lt_b7_b416 lt_b416_b459))
              replace hn423 := ((hn423.tr (Sm.ext he464)).apn hx473 nb_hx473).apn hx477 nb_hx477
              replace hd425 := ((hd425.tr (Sm.ext hm479)).apn hx473 nb_hx473).apn hx477 nb_hx477
              replace hr432 := ((hr432.tr (Sm.ext he464)).apn hx473 nb_hx473).apn hx477 nb_hx477
              replace hq466 := (hq466.apn hx473 nb_hx473).apn hx477 nb_hx477
              replace hr469 := (hr469.apn hx473 nb_hx473).apn hx477 nb_hx477
              replace hb418 := hb418.exc hx477 (Nat.ne_of_lt lt_b416_b459)
              refine ⟨b416, b459, vn422, vd424, vr431, vq465, vr468, ?_, ?_, ?_, ?_, ?_, ?_, ?_, ?_, ?_, ?_, ?_, ?_, ?_, ?_, ?_, ?_, ?_, ?_, ?_⟩
              · exact (by repeat (first | exact hoff59 | refine Off.st ?_ (by decide) _))
              · exact rfl
              · exact ge_b416
              · exact lt_b7_b416
              · exact ge_b459
              · exact (Nat.lt_trans lt_b7_b416 lt_b416_b459)
              · exact (Nat.ne_of_lt lt_b416_b459)
              · exact hx
              · exact hdx
              · exact hE
              · exact hb4
              · exact hb9
              · exact hn423
              · exact hd425
              · exact hr432
              · exact hq466
              · exact hr469
              · exact hb418
              · exact hb461
          · refine RS.run rfl rfl rfl (by decide) (h_alloc (cs := [(.bool false), (.slice none 0 0)]) ty40 rfl) ?_ RS.nil
            rintro _ w481 ⟨b482, rfl, hs485, hb484, he483⟩
            refine ⟨.inr (.inr he483), RA.more (S' := fun u => Ext _ u) (fun u hu => Ext.trans he483 hu) ?_⟩
            replace hb418 := hb418.ext he421
            have lt_b416_b482 := Nat.lt_of_lt_of_eq hb418.lt hs485.symm
            have ge_b482 : w.heap.size ≤ b482 := by rw [hs485]; exact hE.size
            replace hE := Below.ext hE hE.size he483
            refine RA.all [4] (by kernel_rfl) rfl ?_
            replace hx := hx.tr (Sm.ext he483)
            replace hdx := hdx.tr (Sm.ext he483)
            refine RS.call rfl rfl rfl (by decide) (r_call (vl := [(.agg #[(.bool (sx)), vx, ux])]) ent39 rfl) (r03_den hx (by assumption) (by first | omega | simp) hdx (by assumption) (by first | omega | simp) (show ratOf sx (val x) (val dx) = qx from ex)) ?_ RS.nil
            rintro _ w486 ⟨⟨vr488, rfl, hr489, hl490⟩, he487⟩
            refine ⟨.inr (.inr he487), RA.more (S' := fun u => Ext _ u) (fun u hu => Ext.trans he487 hu) ?_⟩
            replace hr489 := hr489.mono (D' := fun b T => w.heap.size ≤ b ∧ T = 52) (fun b T h => ⟨Nat.le_trans hE.size h.1, h.2⟩)
            replace hE := Below.ext hE hE.size he487
            refine RA.all [5] (by kernel_rfl) rfl ?_
            replace hn423 := hn423.tr (Sm.ext (Ext.trans he483 he487))
            refine RS.call rfl rfl rfl (by decide) (r_call (vl := [(.agg #[(.bool (decide (qx.num < 0))), vn422]), (.agg #[(.bool (decide (((qx.den : Nat) : Int) < 0))), vr488])]) ent44 rfl) (r02_divmod hn423 (digs_lm _) (by first | omega | simp) (sg_canon _) hr489 (digs_lm _) (by first | omega | simp) (sg_canon _)) ?_ RS.nil
            rintro _ w491 ⟨⟨vq493, vr496, rfl, hq494, hl495, hr497, hl498⟩, he492⟩
            refine ⟨.inr (.inr he492), RA.more (S' := fun u => Ext _ u) (fun u hu => Ext.trans he492 hu) ?_⟩
            replace hq494 := hq494.mono (D' := fun b T => w.heap.size ≤ b ∧ T = 52) (fun b T h => ⟨Nat.le_trans hE.size h.1, h.2⟩)
            replace hr497 := hr497.mono (D' := fun b T => w.heap.size ≤ b ∧ T = 52) (fun b T h => ⟨Nat.le_trans hE.size h.1, h.2⟩)
            replace hE := Below.ext hE hE.size he492
            refine RA.take 6 rfl (by kernel_rfl) rfl rfl (by decide) (fun _ => r_move_as (v := (.tuple #[(.agg #[(.bool (decide ((qx.num / ((qx.den : Nat) : Int)) < 0))), vq493]), (.agg #[(.bool (decide ((modI qx.num ((qx.den : Nat) : Int)) < 0))), vr496]), (.bool (decide (((qx.den : Nat) : Int) ≠ 0)))])) rfl) ?_
            refine RA.take 7 rfl (by kernel_rfl) rfl rfl (by decide) (fun _ => r_extract (v := (.agg #[(.bool (decide ((qx.num / ((qx.den : Nat) : Int)) < 0))), vq493])) rfl rfl) ?_
            refine RA.take 8 rfl (by kernel_rfl) rfl rfl (by decide) (fun _ => r_extract (v := (.agg #[(.bool (decide ((modI qx.num ((qx.den : Nat) : Int)) < 0))), vr496])) rfl rfl) ?_
            refine RA.take 9 rfl (by kernel_rfl) rfl rfl (by decide) (fun _ => r_extract (v := (.bool (decide (((qx.den : Nat) : Int) ≠ 0)))) rfl rfl) ?_
            refine RA.all [12] (by kernel_rfl) rfl ?_
            have hm503 := Ext.trans he483 (Ext.trans he487 he492)
            replace hb418 := hb418.ext hm503
            refine RS.runs rfl rfl rfl (h_store (vv := (.agg #[(.bool (decide ((qx.num / ((qx.den : Nat) : Int)) < 0))), vq493])) (cs := [(.bool (decide ((qx.num / ((qx.den : Nat) : Int)) < 0))), vq493]) (o := 0) ty40 rfl rfl rfl rfl (one_cons rfl (one_cons hq494.one one_nil)) hb418 (Nat.le_of_ble_eq_true rfl)) ?_ RS.nil
            rintro w499 ⟨hn500, hx501, hz502⟩
            refine ⟨.inr (.inl (by kernel_rfl)), ?_⟩
            replace hE := Below.exc hE hE.size hx501 ge_b416
            have nb_hx501 := (Nb.of hb418 (nu_cons rfl (nu_cons rfl nu_nil)))
            replace hb418 : Bk w499 b416 40 [(.bool (decide ((qx.num / ((qx.den : Nat) : Int)) < 0))), vq493] := hn500
            refine RA.all [13] (by kernel_rfl) rfl ?_
            replace hb484 := (hb484.ext (Ext.trans he487 he492)).exc hx501 (Nat.ne_of_gt lt_b416_b482)
            refine RS.runs rfl rfl rfl (h_store (vv := (.agg #[(.bool (decide ((modI qx.num ((qx.den : Nat) : Int)) < 0))), vr496])) (cs := [(.bool (decide ((modI qx.num ((qx.den : Nat) : Int)) < 0))), vr496]) (o := 0) ty40 rfl rfl rfl rfl (one_cons rfl (one_cons hr497.one one_nil)) hb484 (Nat.le_of_ble_eq_true rfl)) ?_ RS.nil
            rintro w504 ⟨hn505, hx506, hz507⟩
            refine ⟨.inr (.inl (by kernel_rfl)), ?_⟩
            replace hE := Below.exc hE hE.size hx506 ge_b482
            have nb_hx506 := (Nb.of hb484 (nu_cons rfl (nu_cons rfl nu_nil)))
            replace hb484 : Bk w504 b482 40 [(.bool (decide ((modI qx.num ((qx.den : Nat) : Int)) < 0))), vr496] := hn505
            refine RA.take 14 rfl (by kernel_rfl) rfl rfl (by decide) (fun _ => r_assign_as (v := (.bool (decide (((qx.den : Nat) : Int) ≠ 0)))) rfl) ?_
            refine RA.done (by kernel_rfl) ?_
            replace hx := ((hx.tr (Sm.ext (Ext.trans he487 he492))).apn hx501 nb_hx501).apn hx506 nb_hx506
            replace hdx := ((hdx.tr (Sm.ext (Ext.trans he487 he492))).apn hx501 nb_hx501).apn hx506 nb_hx506
            have hm508 := Ext.trans he417 (Ext.trans he421 (Ext.trans he483 (Ext.trans he487 he492)))
            replace hb4 := ((hb4.ext hm508).exc hx501 (Nat.ne_of_lt (Nat.lt_trans lt_b2_b7 lt_b7_b416))).exc hx506 (Nat.ne_of_lt (Nat.lt_trans lt_b2_b7 (Nat.lt_trans lt_b7_b416 lt_b416_b482)))
            replace hb9 := ((hb9.ext hm508).exc hx501 (Nat.ne_of_lt lt_b7_b416)).exc hx506 (Nat.ne_of_lt (Nat.lt_trans lt_b7_b416 lt_b416_b482))
            replace hn423 := ((hn423.tr (Sm.ext he492)).apn hx501 nb_hx501).apn hx506 nb_hx506
            replace hd425 := ((hd425.tr (Sm.ext hm503)).apn hx501 nb_hx501).apn hx506 nb_hx506
            replace hr489 := ((hr489.tr (Sm.ext he492)).apn hx501 nb_hx501).apn hx506 nb_hx506
            replace hq494 := (hq494.apn hx501 nb_hx501).apn hx506 nb_hx506
            replace hr497 := (hr497.apn hx501 nb_hx501).apn hx506 nb_hx506
            replace hb418 := hb418.exc hx506 (Nat.ne_of_lt lt_b416_b482)
            refine ⟨b416, b482, vn422, vd424, vr488, vq493, vr496, ?_, ?_, ?_, ?_, ?_, ?_, ?_, ?_, ?_, ?_, ?_, ?_, ?_, ?_, ?_, ?_, ?_, ?_, ?_⟩
            · exact (by repeat (first | exact hoff59 | refine Off.st ?_ (by decide) _))
            · exact rfl
            · exact ge_b416
            · exact lt_b7_b416
            · exact ge_b482
            · exact (Nat.lt_trans lt_b7_b416 lt_b416_b482)
            · exact (Nat.ne_of_lt lt_b416_b482)
            · exact hx
            · exact hdx
            · exact hE
            · exact hb4
            · exact hb9
            · exact hn423
            · exact hd425
            · exact hr489
            · exact hq494
            · exact hr497
            · exact hb418
            · exact hb484
        · refine RS.run rfl rfl rfl (by decide) (h_alloc (cs := [(.bool false), (.slice none 0 0)]) ty40 rfl) ?_ RS.nil
          rintro _ w509 ⟨b510, rfl, hs513, hb512, he511⟩
          refine ⟨.inr (.inr he511), RA.more (S' := fun u => Ext _ u) (fun u hu => Ext.trans he511 hu) ?_⟩
          have lt_b416_b510 := Nat.lt_of_lt_of_eq hb418.lt hs513.symm
          have ge_b510 : w.heap.size ≤ b510 := by rw [hs513]; exact hE.size
          replace hE := Below.ext hE hE.size he511
          refine RA.all [1] (by kernel_rfl) rfl ?_
          replace hx := hx.tr (Sm.ext he511)
          replace hdx := hdx.tr (Sm.ext he511)
          refine RS.call rfl rfl rfl (by decide) (r_call (vl := [(.agg #[(.bool (sx)), vx, ux])]) ent38 rfl) (r03_norm hx (by assumption) (by first | omega | simp) hdx (by assumption) (by first | omega | simp) (show ratOf sx (val x) (val dx) = qx from ex)) ?_ RS.nil
          rintro _ w514 ⟨⟨vn516, vd518, rfl, hn517, hd519, hl520, hl521⟩, he515⟩
          refine ⟨.inr (.inr he515), RA.more (S' := fun u => Ext _ u) (fun u hu => Ext.trans he515 hu) ?_⟩
          have hlv522 := den_one qx
          replace hn517 := hn517.mono (D' := fun b T => w.heap.size ≤ b ∧ T = 52) (fun b T h => ⟨Nat.le_trans hE.size h.1, h.2⟩)
          replace hd519 := hd519.mono (D' := fun b T => w.heap.size ≤ b ∧ T = 52) (fun b T h => ⟨Nat.le_trans hE.size h.1, h.2⟩)
          replace hE := Below.ext hE hE.size he515
          refine RA.take 2 rfl (by kernel_rfl) rfl rfl (by decide) (fun _ => r_fielda Try.underlying42 rfl Try.underlying40 ag40 ty40 rfl) ?_
          refine RA.all [4] (by kernel_rfl) rfl ?_
          replace hx := hx.tr (Sm.ext he515)
          replace hdx := hdx.tr (Sm.ext he515)
          refine RS.call rfl rfl rfl (by decide) (r_call (vl := [(.agg #[(.bool (sx)), vx, ux])]) ent39 rfl) (r03_den hx (by assumption) (by first | omega | simp) hdx (by assumption) (by first | omega | simp) (show ratOf sx (val x) (val dx) = qx from ex)) ?_ RS.nil
          rintro _ w523 ⟨⟨vr525, rfl, hr526, hl527⟩, he524⟩
          refine ⟨.inr (.inr he524), RA.more (S' := fun u => Ext _ u) (fun u hu => Ext.trans he524 hu) ?_⟩
          replace hr526 := hr526.mono (D' := fun b T => w.heap.size ≤ b ∧ T = 52) (fun b T h => ⟨Nat.le_trans hE.size h.1, h.2⟩)
          replace hE := Below.ext hE hE.size he524
          refine RA.all [5] (by kernel_rfl) rfl ?_
          replace hn517 := hn517.tr (Sm.ext he524)
          refine RS.call rfl rfl rfl (by decide) (r_call (vl := [(.agg #[(.bool (decide (qx.num < 0))), vn516]), (.agg #[(.bool (decide (((qx.den : Nat) : Int) < 0))), vr525])]) ent44 rfl) (r02_divmod hn517 (digs_lm _) (by first | omega | simp) (sg_canon _) hr526 (digs_lm _) (by first | omega | simp) (sg_canon _)) ?_ RS.nil
          rintro _ w528 ⟨⟨vq530, vr533, rfl, hq531, hl532, hr534, hl535⟩, he529⟩
          refine ⟨.inr (.inr he529), RA.more (S' := fun u => Ext _ u) (fun u hu => Ext.trans he529 hu) ?_⟩
          replace hq531 := hq531.mono (D' := fun b T => w.heap.size ≤ b ∧ T = 52) (fun b T h => ⟨Nat.le_trans hE.size h.1, h.2⟩)
          replace hr534 := hr534.mono (D' := fun b T => w.heap.size ≤ b ∧ T = 52) (fun b T h => ⟨Nat.le_trans hE.size h.1, h.2⟩)
          replace hE := Below.ext hE hE.size he529
          refine RA.take 6 rfl (by kernel_rfl) rfl rfl (by decide) (fun _ => r_move_as (v := (.tuple #[(.agg #[(.bool (decide ((qx.num / ((qx.den : Nat) : Int)) < 0))), vq530]), (.agg #[(.bool (decide ((modI qx.num ((qx.den : Nat) : Int)) < 0))), vr533]), (.bool (decide (((qx.den : Nat) : Int) ≠ 0)))])) rfl) ?_
          refine RA.take 7 rfl (by kernel_rfl) rfl rfl (by decide) (fun _ => r_extract (v := (.agg #[(.bool (decide ((qx.num / ((qx.den : Nat) : Int)) < 0))), vq530])) rfl rfl) ?_
          refine RA.take 8 rfl (by kernel_rfl) rfl rfl (by decide) (fun _ => r_extract (v := (.agg #[(.bool (decide ((modI qx.num ((qx.den : Nat) : Int)) < 0))), vr533])) rfl rfl) ?_
          refine RA.take 9 rfl (by kernel_rfl) rfl rfl (by decide) (fun _ => r_extract (v := (.bool (decide (((qx.den : Nat) : Int) ≠ 0)))) rfl rfl) ?_
          refine RA.all [12] (by kernel_rfl) rfl ?_
          have hm540 := Ext.trans he511 (Ext.trans he515 (Ext.trans he524 he529))
          replace hb418 := hb418.ext hm540
          refine RS.runs rfl rfl rfl (h_store (vv := (.agg #[(.bool (decide ((qx.num / ((qx.den : Nat) : Int)) < 0))), vq530])) (cs := [(.bool (decide ((qx.num / ((qx.den : Nat) : Int)) < 0))), vq530]) (o := 0) ty40 rfl rfl rfl rfl (one_cons rfl (one_cons hq531.one one_nil)) hb418 (Nat.le_of_ble_eq_true rfl)) ?_ RS.nil
          rintro w536 ⟨hn537, hx538, hz539⟩
          refine ⟨.inr (.inl (by kernel_rfl)), ?_⟩
          replace hE := Below.exc hE hE.size hx538 ge_b416
          have nb_hx538 := (Nb.of hb418 (nu_cons rfl (nu_cons rfl nu_nil)))
          replace hb418 : Bk w536 b416 40 [(.bool (decide ((qx.num / ((qx.den : Nat) : Int)) < 0))), vq530] := hn537
          refine RA.all [13] (by kernel_rfl) rfl ?_
          have hm545 := Ext.trans he515 (Ext.trans he524 he529)
          replace hb512 := (hb512.ext hm545).exc hx538 (Nat.ne_of_gt lt_b416_b510)
          refine RS.runs rfl rfl rfl (h_store (vv := (.agg #[(.bool (decide ((modI qx.num ((qx.den : Nat) : Int)) < 0))), vr533])) (cs := [(.bool (decide ((modI qx.num ((qx.den : Nat) : Int)) < 0))), vr533]) (o := 0) ty40 rfl rfl rfl rfl (one_cons rfl (one_cons hr534.one one_nil)) hb512 (Nat.le_of_ble_eq_true rfl)) ?_ RS.nil
          rintro w541 ⟨hn542, hx543, hz544⟩
          refine ⟨.inr (.inl (by kernel_rfl)), ?_⟩
          replace hE := Below.exc hE hE.size hx543 ge_b510
          have nb_hx543 := (Nb.of hb512 (nu_cons rfl (nu_cons rfl nu_nil)))
          replace hb512 : Bk w541 b510 40 [(.bool (decide ((modI qx.num ((qx.den : Nat) : Int)) < 0))), vr533] := hn542
          refine RA.take 14 rfl (by kernel_rfl) rfl rfl (by decide) (fun _ => r_assign_as (v := (.bool (decide (((qx.den : Nat) : Int) ≠ 0)))) rfl) ?_
          refine RA.done (by kernel_rfl) ?_
          replace hx := ((hx.tr (Sm.ext (Ext.trans he524 he529))).apn hx538 nb_hx538).apn hx543 nb_hx543
          replace hdx := ((hdx.tr (Sm.ext (Ext.trans he524 he529))).apn hx538 nb_hx538).apn hx543 nb_hx543
          have hm546 := Ext.trans he417 (Ext.trans he511 (Ext.trans he515 (Ext.trans he524 he529)))
          replace hb4 := ((hb4.ext hm546).exc hx538 (Nat.ne_of_lt (Nat.lt_trans lt_b2_b7 lt_b7_b416))).exc hx543 (Nat.ne_of_lt (Nat.lt_trans lt_b2_b7 (Nat.lt_trans lt_b7_b416 lt_b416_b510)))
          replace hb9 := ((hb9.ext hm546).exc hx538 (Nat.ne_of_lt lt_b7_b416)).exc hx543 (Nat.ne_of_lt (Nat.lt_trans lt_b7_b416 lt_b416_b510))
          replace hn517 := ((hn517.tr (Sm.ext he529)).apn hx538 nb_hx538).apn hx543 nb_hx543
          replace hd519 := ((hd519.tr (Sm.ext (Ext.trans he524 he529))).apn hx538 nb_hx538).apn hx543 nb_hx543
          replace hr526 := ((hr526.tr (Sm.ext he529)).apn hx538 nb_hx538).apn hx543 nb_hx543
          replace hq531 := (hq531.apn hx538 nb_hx538).apn hx543 nb_hx543
          replace hr534 := (hr534.apn hx538 nb_hx538).apn hx543 nb_hx543
          replace hb418 := hb418.exc hx543 (Nat.ne_of_lt lt_b416_b510)
          refine ⟨b416, b510, vn516, vd518, vr525, vq530, vr533, ?_, ?_, ?_, ?_, ?_, ?_, ?_, ?_, ?_, ?_, ?_, ?_, ?_, ?_, ?_, ?_, ?_, ?_, ?_⟩
          · exact (by repeat (first | exact hoff59 | refine Off.st ?_ (by decide) _))
          · exact rfl
          · exact ge_b416
          · exact lt_b7_b416
          · exact ge_b510
          · exact (Nat.lt_trans lt_b7_b416 lt_b416_b510)
          · exact (Nat.ne_of_lt lt_b416_b510)
          · exact hx
          · exact hdx
          · exact hE
          · exact hb4
          · exact hb9
          · exact hn517
          · exact hd519
          · exact hr526
          · exact hq531
          · exact hr534
          · exact hb418
          · exact hb512
      · refine RS.run rfl rfl rfl (by decide) (h_alloc (cs := [(.bool false), (.slice none 0 0)]) ty40 rfl) ?_ RS.nil
        rintro _ w547 ⟨b548, rfl, hs551, hb550, he549⟩
        refine ⟨.inr (.inr he549), RA.more (S' := fun u => Ext _ u) (fun u hu => Ext.trans he549 hu) ?_⟩
        replace hb9 := hb9.ext he61
        have lt_b7_b548 := Nat.lt_of_lt_of_eq hb9.lt hs551.symm
        have ge_b548 : w.heap.size ≤ b548 := by rw [hs551]; exact hE.size
        replace hE := Below.ext hE hE.size he549
        refine RA.all [1, 10] (by kernel_rfl) rfl ?_
        replace hx := hx.tr (Sm.ext he549)
        replace hdx := hdx.tr (Sm.ext he549)
        refine RS.call rfl rfl rfl (by decide) (r_call (vl := [(.agg #[(.bool (sx)), vx, ux])]) ent38 rfl) (r03_norm hx (by assumption) (by first | omega | simp) hdx (by assumption) (by first | omega | simp) (show ratOf sx (val x) (val dx) = qx from ex)) ?_ ?_
        · rintro _ w552 ⟨⟨vn554, vd556, rfl, hn555, hd557, hl558, hl559⟩, he553⟩
          refine ⟨.inr (.inr he553), RA.more (S' := fun u => Ext _ u) (fun u hu => Ext.trans he553 hu) ?_⟩
          have hlv560 := den_one qx
          replace hn555 := hn555.mono (D' := fun b T => w.heap.size ≤ b ∧ T = 52) (fun b T h => ⟨Nat.le_trans hE.size h.1, h.2⟩)
          replace hd557 := hd557.mono (D' := fun b T => w.heap.size ≤ b ∧ T = 52) (fun b T h => ⟨Nat.le_trans hE.size h.1, h.2⟩)
          replace hE := Below.ext hE hE.size he553
          refine RA.take 2 rfl (by kernel_rfl) rfl rfl (by decide) (fun _ => r_fielda Try.underlying42 rfl Try.underlying40 ag40 ty40 rfl) ?_
          refine RA.all [4, 10] (by kernel_rfl) rfl ?_
          replace hx := hx.tr (Sm.ext he553)
          replace hdx := hdx.tr (Sm.ext he553)
          refine RS.call rfl rfl rfl (by decide) (r_call (vl := [(.agg #[(.bool (sx)), vx, ux])]) ent39 rfl) (r03_den hx (by assumption) (by first | omega | simp) hdx (by assumption) (by first | omega | simp) (show ratOf sx (val x) (val dx) = qx from ex)) ?_ ?_
          · rintro _ w561 ⟨⟨vr563, rfl, hr564, hl565⟩, he562⟩
            refine ⟨.inr (.inr he562), RA.more (S' := fun u => Ext _ u) (fun u hu => Ext.trans he562 hu) ?_⟩
            replace hr564 := hr564.mono (D' := fun b T => w.heap.size ≤ b ∧ T = 52) (fun b T h => ⟨Nat.le_trans hE.size h.1, h.2⟩)
            replace hE := Below.ext hE hE.size he562
            refine RA.all [5, 10] (by kernel_rfl) rfl ?_
            replace hn555 := hn555.tr (Sm.ext he562)
            refine RS.call rfl rfl rfl (by decide) (r_call (vl := [(.agg #[(.bool (decide (qx.num < 0))), vn554]), (.agg #[(.bool (decide (((qx.den : Nat) : Int) < 0))), vr563])]) ent44 rfl) (r02_divmod hn555 (digs_lm _) (by first | omega | simp) (sg_canon _) hr564 (digs_lm _) (by first | omega | simp) (sg_canon _)) ?_ ?_
            · rintro _ w566 ⟨⟨vq568, vr571, rfl, hq569, hl570, hr572, hl573⟩, he567⟩
              refine ⟨.inr (.inr he567), RA.more (S' := fun u => Ext _ u) (fun u hu => Ext.trans he567 hu) ?_⟩
              replace hq569 := hq569.mono (D' := fun b T => w.heap.size ≤ b ∧ T = 52) (fun b T h => ⟨Nat.le_trans hE.size h.1, h.2⟩)
              replace hr572 := hr572.mono (D' := fun b T => w.heap.size ≤ b ∧ T = 52) (fun b T h => ⟨Nat.le_trans hE.size h.1, h.2⟩)
              replace hE := Below.ext hE hE.size he567
              refine RA.take 6 rfl (by kernel_rfl) rfl rfl (by decide) (fun _ => r_move_as (v := (.tuple #[(.agg #[(.bool (decide ((qx.num / ((qx.den : Nat) : Int)) < 0))), vq568]), (.agg #[(.bool (decide ((modI qx.num ((qx.den : Nat) : Int)) < 0))), vr571]), (.bool (decide (((qx.den : Nat) : Int) ≠ 0)))])) rfl) ?_
              refine RA.take 7 rfl (by kernel_rfl) rfl rfl (by decide) (fun _ => r_extract (v := (.agg #[(.bool (decide ((qx.num / ((qx.den : Nat) : Int)) < 0))), vq568])) rfl rfl) ?_
              refine RA.take 8 rfl (by kernel_rfl) rfl rfl (by decide) (fun _ => r_extract (v := (.agg #[(.bool (decide ((modI qx.num ((qx.den : Nat) : Int)) < 0))), vr571])) rfl rfl) ?_
              refine RA.take 9 rfl (by kernel_rfl) rfl rfl (by decide) (fun _ => r_extract (v := (.bool (decide (((qx.den : Nat) : Int) ≠ 0)))) rfl rfl) ?_
              refine RA.all [10] (by kernel_rfl) rfl ?_
              refine RS.run rfl rfl rfl (by decide) (h_alloc (cs := [(.bool false), (.slice none 0 0)]) ty40 rfl) ?_ RS.nil
              rintro _ w574 ⟨b575, rfl, hs578, hb577, he576⟩
              refine ⟨.inr (.inr he576), RA.more (S' := fun u => Ext _ u) (fun u hu => Ext.trans he576 hu) ?_⟩
              have hm579 := Ext.trans he553 (Ext.trans he562 he567)
              replace hb550 := hb550.ext hm579
              have lt_b548_b575 := Nat.lt_of_lt_of_eq hb550.lt hs578.symm
              have ge_b575 : w.heap.size ≤ b575 := by rw [hs578]; exact hE.size
              replace hE := Below.ext hE hE.size he576
              refine RA.all [12] (by kernel_rfl) rfl ?_
              refine RS.runs rfl rfl rfl (h_store (vv := (.agg #[(.bool (decide ((qx.num / ((qx.den : Nat) : Int)) < 0))), vq568])) (cs := [(.bool (decide ((qx.num / ((qx.den : Nat) : Int)) < 0))), vq568]) (o := 0) ty40 rfl rfl rfl rfl (one_cons rfl (one_cons hq569.one one_nil)) hb577 (Nat.le_of_ble_eq_true rfl)) ?_ RS.nil
              rintro w580 ⟨hn581, hx582, hz583⟩
              refine ⟨.inr (.inl (by kernel_rfl)), ?_⟩
              replace hE := Below.exc hE hE.size hx582 ge_b575
              have nb_hx582 := (Nb.of hb577 (nu_cons rfl (nu_cons rfl nu_nil)))
              replace hb577 : Bk w580 b575 40 [(.bool (decide ((qx.num / ((qx.den : Nat) : Int)) < 0))), vq568] := hn581
              refine RA.all [13] (by kernel_rfl) rfl ?_
              replace hb550 := (hb550.ext he576).exc hx582 (Nat.ne_of_lt lt_b548_b575)
              refine RS.runs rfl rfl rfl (h_store (vv := (.agg #[(.bool (decide ((modI qx.num ((qx.den : Nat) : Int)) < 0))), vr571])) (cs := [(.bool (decide ((modI qx.num ((qx.den : Nat) : Int)) < 0))), vr571]) (o := 0) ty40 rfl rfl rfl rfl (one_cons rfl (one_cons hr572.one one_nil)) hb550 (Nat.le_of_ble_eq_true rfl)) ?_ RS.nil
              rintro w584 ⟨hn585, hx586, hz587⟩
              refine ⟨.inr (.inl (by kernel_rfl)), ?_⟩
              replace hE := Below.exc hE hE.size hx586 ge_b548
              have nb_hx586 := (Nb.of hb550 (nu_cons rfl (nu_cons rfl nu_nil)))
              replace hb550 : Bk w584 b548 40 [(.bool (decide ((modI qx.num ((qx.den : Nat) : Int)) < 0))), vr571] := hn585
              refine RA.take 14 rfl (by kernel_rfl) rfl rfl (by decide) (fun _ => r_assign_as (v := (.bool (decide (((qx.den : Nat) : Int) ≠ 0)))) rfl) ?_
              refine RA.done (by kernel_rfl) ?_
              have hm588 := Ext.trans he562 (Ext.trans he567 he576)
              replace hx := ((hx.tr (Sm.ext hm588)).apn hx582 nb_hx582).apn hx586 nb_hx586
              replace hdx := ((hdx.tr (Sm.ext hm588)).apn hx582 nb_hx582).apn hx586 nb_hx586
              have hm589 := Ext.trans he549 (Ext.trans he553 (Ext.trans he562 (Ext.trans he567 he576)))
              replace hb4 := ((hb4.ext hm589).exc hx582 (Nat.ne_of_lt (Nat.lt_trans lt_b2_b7 (Nat.lt_trans lt_b7_b548 lt_b548_b575)))).exc hx586 (Nat.ne_of_lt (Nat.lt_trans lt_b2_b7 lt_b7_b548))
              replace hb9 := ((hb9.ext hm589).exc hx582 (Nat.ne_of_lt (Nat.lt_trans lt_b7_b548 lt_b548_b575))).exc hx586 (Nat.ne_of_lt lt_b7_b548)
              replace hn555 := ((hn555.tr (Sm.ext (Ext.trans he567 he576))).apn hx582 nb_hx582).apn hx586 nb_hx586
              replace hd557 := ((hd557.tr (Sm.ext hm588)).apn hx582 nb_hx582).apn hx586 nb_hx586
              replace hr564 := ((hr564.tr (Sm.ext (Ext.trans he567 he576))).apn hx582 nb_hx582).apn hx586 nb_hx586
              replace hq569 := ((hq569.tr (Sm.ext he576)).apn hx582 nb_hx582).apn hx586 nb_hx586
              replace hr572 := ((hr572.tr (Sm.ext he576)).apn hx582 nb_hx582).apn hx586 nb_hx586
              replace hb577 := hb577.exc hx586 (Nat.ne_of_gt lt_b548_b575)
              refine ⟨b575, b548, vn554, vd556, vr563, vq568, vr571, ?_, ?_, ?_, ?_, ?_, ?_, ?_, ?_, ?_, ?_, ?_, ?_, ?_, ?_, ?_, ?_, ?_, ?_, ?_⟩
              · exact (by repeat (first | exact hoff59 | refine Off.st ?_ (by decide) _))
              · exact rfl
              · exact ge_b575
              · exact (Nat.lt_trans lt_b7_b548 lt_b548_b575)
              · exact ge_b548
              · exact lt_b7_b548
              · exact (Nat.ne_of_gt lt_b548_b575)
              · exact hx
              · exact hdx
              · exact hE
              · exact hb4
              · exact hb9
              · exact hn555
              · exact hd557
              · exact hr564
              · exact hq569
              · exact hr572
              · exact hb577
              · exact hb550
            · refine RS.run rfl rfl rfl (by decide) (h_alloc (cs := [(.bool false), (.slice none 0 0)]) ty40 rfl) ?_ RS.nil
              rintro _ w590 ⟨b591, rfl, hs594, hb593, he592⟩
              refine ⟨.inr (.inr he592), RA.more (S' := fun u => Ext _ u) (fun u hu => Ext.trans he592 hu) ?_⟩
              replace hb550 := hb550.ext (Ext.trans he553 he562)
              have lt_b548_b591 := Nat.lt_of_lt_of_eq hb550.lt hs594.symm
              have ge_b591 : w.heap.size ≤ b591 := by rw [hs594]; exact hE.size
              replace hE := Below.ext hE hE.size he592
              refine RA.all [5] (by kernel_rfl) rfl ?_
              replace hn555 := hn555.tr (Sm.ext he592)
              replace hr564 := hr564.tr (Sm.ext he592)
              refine RS.call rfl rfl rfl (by decide) (r_call (vl := [(.agg #[(.bool (decide (qx.num < 0))), vn554]), (.agg #[(.bool (decide (((qx.den : Nat) : Int) < 0))), vr563])]) ent44 rfl) (r02_divmod hn555 (digs_lm _) (by first | omega | simp) (sg_canon _) hr564 (digs_lm _) (by first | omega | simp) (sg_canon _)) ?_ RS.nil
              rintro _ w595 ⟨⟨vq597, vr600, rfl, hq598, hl599, hr601, hl602⟩, he596⟩
              refine ⟨.inr (.inr he596), RA.more (S' := fun u => Ext _ u) (fun u hu => Ext.trans he596 hu) ?_⟩
              replace hq598 := hq598.mono (D' := fun b T => w.heap.size ≤ b ∧ T = 52) (fun b T h => ⟨Nat.le_trans hE.size h.1, h.2⟩)
              replace hr601 := hr601.mono (D' := fun b T => w.heap.size ≤ b ∧ T = 52) (fun b T h => ⟨Nat.le_trans hE.size h.1, h.2⟩)
              replace hE := Below.ext hE hE.size he596
              refine RA.take 6 rfl (by kernel_rfl) rfl rfl (by decide) (fun _ => r_move_as (v := (.tuple #[(.agg #[(.bool (decide ((qx.num / ((qx.den : Nat) : Int)) < 0))), vq597]), (.agg #[(.bool (decide ((modI qx.num ((qx.den : Nat) : Int)) < 0))), vr600]), (.bool (decide (((qx.den : Nat) : Int) ≠ 0)))])) rfl) ?_
              refine RA.take 7 rfl (by kernel_rfl) rfl rfl (by decide) (fun _ => r_extract (v := (.agg #[(.bool (decide ((qx.num / ((qx.den : Nat) : Int)) < 0))), vq597])) rfl rfl) ?_
              refine RA.take 8 rfl (by kernel_rfl) rfl rfl (by decide) (fun _ => r_extract (v := (.agg #[(.bool (decide ((modI qx.num ((qx.den : Nat) : Int)) < 0))), vr600])) rfl rfl) ?_
              refine RA.take 9 rfl (by kernel_rfl) rfl rfl (by decide) (fun _ => r_extract (v := (.bool (decide (((qx.den : Nat) : Int) ≠ 0)))) rfl rfl) ?_
              refine RA.all [12] (by kernel_rfl) rfl ?_
              replace hb593 := hb593.ext he596
              refine RS.runs rfl rfl rfl (h_store (vv := (.agg #[(.bool (decide ((qx.num / ((qx.den : Nat) : Int)) < 0))), vq597])) (cs := [(.bool (decide ((qx.num / ((qx.den : Nat) : Int)) < 0))), vq597]) (o := 0) ty40 rfl rfl rfl rfl (one_cons rfl (one_cons hq598.one one_nil)) hb593 (Nat.le_of_ble_eq_true rfl)) ?_ RS.nil
              rintro w603 ⟨hn604, hx605, hz606⟩
              refine ⟨.inr (.inl (by kernel_rfl)), ?_⟩
              replace hE := Below.exc hE hE.size hx605 ge_b591
              have nb_hx605 := (Nb.of hb593 (nu_cons rfl (nu_cons rfl nu_nil)))
              replace hb593 : Bk w603 b591 40 [(.bool (decide ((qx.num / ((qx.den : Nat) : Int)) < 0))), vq597] := hn604
              refine RA.all [13] (by kernel_rfl) rfl ?_
              replace hb550 := (hb550.ext (Ext.trans he592 he596)).exc hx605 (Nat.ne_of_lt lt_b548_b591)
              refine RS.runs rfl rfl rfl (h_store (vv := (.agg #[(.bool (decide ((modI qx.num ((qx.den : Nat) : Int)) < 0))), vr600])) (cs := [(.bool (decide ((modI qx.num ((qx.den : Nat) : Int)) < 0))), vr600]) (o := 0) ty40 rfl rfl rfl rfl (one_cons rfl (one_cons hr601.one one_nil)) hb550 (Nat.le_of_ble_eq_true rfl)) ?_ RS.nil
              rintro w607 ⟨hn608, hx609, hz610⟩
              refine ⟨.inr (.inl (by kernel_rfl)), ?_⟩
              replace hE := Below.exc hE hE.size hx609 ge_b548
              have nb_hx609 := (Nb.of hb550 (nu_cons rfl (nu_cons rfl nu_nil)))
              replace hb550 : Bk w607 b548 40 [(.bool (decide ((modI qx.num ((qx.den : Nat) : Int)) < 0))), vr600] := hn608
              refine RA.take 14 rfl (by kernel_rfl) rfl rfl (by decide) (fun _ => r_assign_as (v := (.bool (decide (((qx.den : Nat) : Int) ≠ 0)))) rfl) ?_
              refine RA.done (by kernel_rfl) ?_
              have hm611 := Ext.trans he562 (Ext.trans he592 he596)
              replace hx := ((hx.tr (Sm.ext hm611)).apn hx605 nb_hx605).apn hx609 nb_hx609
              replace hdx := ((hdx.tr (Sm.ext hm611)).apn hx605 nb_hx605).apn hx609 nb_hx609
              have hm612 := Ext.trans he549 (Ext.trans he553 (Ext.trans he562 (Ext.trans he592 he596)))
              replace hb4 := ((hb4.ext hm612).exc hx605 (Nat.ne_of_lt (Nat.lt_trans lt_b2_b7 (Nat.lt_trans lt_b7_b548 lt_b548_b591)))).exc hx609 (Nat.ne_of_lt (Nat.lt_trans lt_b2_b7 lt_b7_b548))
              replace hb9 := ((hb9.ext hm612).exc hx605 (Nat.ne_of_lt (Nat.lt_trans lt_b7_b548 lt_b548_b591))).exc hx609 (Nat.ne_of_lt lt_b7_b548)
              replace hn555 := ((hn555.tr (Sm.ext he596)).apn hx605 nb_hx605).apn hx609 nb_hx609
              replace hd557 := ((hd557.tr (Sm.ext hm611)).apn hx605 nb_hx605).apn hx609 nb_hx609
              replace hr564 := ((hr564.tr (Sm.ext he596)).apn hx605 nb_hx605).apn hx609 nb_hx609
              replace hq598 := (hq598.apn hx605 nb_hx605).apn hx609 nb_hx609
              replace hr601 := (hr601.apn hx605 nb_hx605).apn hx609 nb_hx609
              replace hb593 := hb593.exc hx609 (Nat.ne_of_gt lt_b548_b591)
              refine ⟨b591, b548, vn554, vd556, vr563, vq597, vr600, ?_, ?_, ?_, ?_, ?_, ?_, ?_, ?_, ?_, ?_, ?_, ?_, ?_, ?_, ?_, ?_, ?_, ?_, ?_⟩
              · exact (by repeat (first | exact hoff59 | refine Off.st ?_ (by decide) _))
              · exact rfl
              · exact ge_b591
              · exact (Nat.lt_trans lt_b7_b548 lt_b548_b591)
              · exact ge_b548
              · exact lt_b7_b548
              · exact (Nat.ne_of_gt lt_b548_b591)
              · exact hx
              · exact hdx
              · exact hE
              · exact hb4
              · exact hb9
              · exact hn555
              · exact hd557
              · exact hr564
              · exact hq598
              · exact hr601
              · exact hb593
              · exact hb550
          · refine RS.run rfl rfl rfl (by decide) (h_alloc (cs := [(.bool false), (.slice none 0 0)]) ty40 rfl) ?_ RS.nil
            rintro _ w613 ⟨b614, rfl, hs617, hb616, he615⟩
            refine ⟨.inr (.inr he615), RA.more (S' := fun u => Ext _ u) (fun u hu => Ext.trans he615 hu) ?_⟩
            replace hb550 := hb550.ext he553
            have lt_b548_b614 := Nat.lt_of_lt_of_eq hb550.lt hs617.symm
            have ge_b614 : w.heap.size ≤ b614 := by rw [hs617]; exact hE.size
            replace hE := Below.ext hE hE.size he615
            refine RA.all [4] (by kernel_rfl) rfl ?_
            replace hx := hx.tr (Sm.ext he615)
            replace hdx := hdx.tr (Sm.ext he615)
            refine RS.call rfl rfl rfl (by decide) (r_call (vl := [(.agg #[(.bool (sx)), vx, ux])]) ent39 rfl) (r03_den hx (by assumption) (by first | omega | simp) hdx (by assumption) (by first | omega | simp) (show ratOf sx (val x) (val dx) = qx from ex)) ?_ RS.nil
            rintro _ w618 ⟨⟨vr620, rfl, hr621, hl622⟩, he619⟩
            refine ⟨.inr (.inr he619), RA.more (S' := fun u => Ext _ u) (fun u hu => Ext.trans he619 hu) ?_⟩
            replace hr621 := hr621.mono (D' := fun b T => w.heap.size ≤ b ∧ T = 52) (fun b T h => ⟨Nat.le_trans hE.size h.1, h.2⟩)
            replace hE := Below.ext hE hE.size he619
            refine RA.all [5] (by kernel_rfl) rfl ?_
            replace hn555 := hn555.tr (Sm.ext (Ext.trans he615 he619))
            refine RS.call rfl rfl rfl (by decide) (r_call (vl := [(.agg #[(.bool (decide (qx.num < 0))), vn554]), (.agg #[(.bool (decide (((qx.den : Nat) : Int) < 0))), vr620])]) ent44 rfl) (r02_divmod hn555 (digs_lm _) (by first | omega | simp) (sg_canon _) hr621 (digs_lm _) (by first | omega | simp) (sg_canon _)) ?_ RS.nil
            rintro _ w623 ⟨⟨vq625, vr628, rfl, hq626, hl627, hr629, hl630⟩, he624⟩
            refine ⟨.inr (.inr he624), RA.more (S' := fun u => Ext _ u) (fun u hu => Ext.trans he624 hu) ?_⟩
            replace hq626 := hq626.mono (D' := fun b T => w.heap.size ≤ b ∧ T = 52) (fun b T h => ⟨Nat.le_trans hE.size h.1, h.2⟩)
            replace hr629 := hr629.mono (D' := fun b T => w.heap.size ≤ b ∧ T = 52) (fun b T h => ⟨Nat.le_trans hE.size h.1, h.2⟩)
            replace hE := Below.ext hE hE.size he624
            refine RA.take 6 rfl (by kernel_rfl) rfl rfl (by decide) (fun _ => r_move_as (v := (.tuple #[(.agg #[(.bool (decide ((qx.num / ((qx.den : Nat) : Int)) < 0))), vq625]), (.agg #[(.bool (decide ((modI qx.num ((qx.den : Nat) : Int)) < 0))), vr628]), (.bool (decide (((qx.den : Nat) : Int) ≠ 0)))])) rfl) ?_
            refine RA.take 7 rfl (by kernel_rfl) rfl rfl (by decide) (fun _ => r_extract (v := (.agg #[(.bool (decide ((qx.num / ((qx.den : Nat) : Int)) < 0))), vq625])) rfl rfl) ?_
            refine RA.take 8 rfl (by kernel_rfl) rfl rfl (by decide) (fun _ => r_extract (v := (.agg #[(.bool (decide ((modI qx.num ((qx.den : Nat) : Int)) < 0))), vr628])) rfl rfl) ?_
            refine RA.take 9 rfl (by kernel_rfl) rfl rfl (by decide) (fun _ => r_extract (v := (.bool (decide (((qx.den : Nat) : Int) ≠ 0)))) rfl rfl) ?_
            refine RA.all [12] (by kernel_rfl) rfl ?_
            replace hb616 := hb616.ext (Ext.trans he619 he624)
            refine RS.runs rfl rfl rfl (h_store (vv := (.agg #[(.bool (decide ((qx.num / ((qx.den : Nat) : Int)) < 0))), vq625])) (cs := [(.bool (decide ((qx.num / ((qx.den : Nat) : Int)) < 0))), vq625]) (o := 0) ty40 rfl rfl rfl rfl (one_cons rfl (one_cons hq626.one one_nil)) hb616 (Nat.le_of_ble_eq_true rfl)) ?_ RS.nil
            rintro w631 ⟨hn632, hx633, hz634⟩
            refine ⟨.inr (.inl (by kernel_rfl)), ?_⟩
            replace hE := Below.exc hE hE.size hx633 ge_b614
            have nb_hx633 := (Nb.of hb616 (nu_cons rfl (nu_cons rfl nu_nil)))
            replace hb616 : Bk w631 b614 40 [(.bool (decide ((qx.num / ((qx.den : Nat) : Int)) < 0))), vq625] := hn632
            refine RA.all [13] (by kernel_rfl) rfl ?_
            have hm639 := Ext.trans he615 (Ext.trans he619 he624)
            replace hb550 := (hb550.ext hm639).exc hx633 (Nat.ne_of_lt lt_b548_b614)
            refine RS.runs rfl rfl rfl (h_store (vv := (.agg #[(.bool (decide ((modI qx.num ((qx.den : Nat) : Int)) < 0))), vr628])) (cs := [(.bool (decide ((modI qx.num ((qx.den : Nat) : Int)) < 0))), vr628]) (o := 0) ty40 rfl rfl rfl rfl (one_cons rfl (one_cons hr629.one one_nil)) hb550 (Nat.le_of_ble_eq_true rfl)) ?_ RS.nil
            rintro w635 ⟨hn636, hx637, hz638⟩
            refine ⟨.inr (.inl (by kernel_rfl)), ?_⟩
            replace hE := Below.exc hE hE.size hx637 ge_b548
            have nb_hx637 := (Nb.of hb550 (nu_cons rfl (nu_cons rfl nu_nil)))
            replace hb550 : Bk w635 b548 40 [(.bool (decide ((modI qx.num ((qx.den : Nat) : Int)) < 0))), vr628] := hn636
            refine RA.take 14 rfl (by kernel_rfl) rfl rfl (by decide) (fun _ => r_assign_as (v := (.bool (decide (((qx.den : Nat) : Int) ≠ 0)))) rfl) ?_
            refine RA.done (by kernel_rfl) ?_
            replace hx := ((hx.tr (Sm.ext (Ext.trans he619 he624))).apn hx633 nb_hx633).apn hx637 nb_hx637
            replace hdx := ((hdx.tr (Sm.ext (Ext.trans he619 he624))).apn hx633 nb_hx633).apn hx637 nb_hx637
            have hm640 := Ext.trans he549 (Ext.trans he553 (Ext.trans he615 (Ext.trans he619 he624)))
            replace hb4 := ((hb4.ext hm640).exc hx633 (Nat.ne_of_lt (Nat.lt_trans lt_b2_b7 (Nat.lt_trans lt_b7_b548 lt_b548_b614)))).exc hx637 (Nat.ne_of_lt (Nat.lt_trans lt_b2_b7 lt_b7_b548))
            replace hb9 := ((hb9.ext hm640).exc hx633 (Nat.ne_of_lt (Nat.lt_trans lt_b7_b548 lt_b548_b614))).exc hx637 (Nat.ne_of_lt lt_b7_b548)
            replace hn555 := ((hn555.tr (Sm.ext he624)).apn hx633 nb_hx633).apn hx637 nb_hx637
            replace hd557 := ((hd557.tr (Sm.ext hm639)).apn hx633 nb_hx633).apn hx637 nb_hx637
            replace hr621 := ((hr621.tr (Sm.ext he624)).apn hx633 nb_hx633).apn hx637 nb_hx637
            replace hq626 := (hq626.apn hx633 nb_hx633).apn hx637 nb_hx637
            replace hr629 := (hr629.apn hx633 nb_hx633).apn hx637 nb_hx637
            replace hb616 := hb616.exc hx637 (Nat.ne_of_gt lt_b548_b614)
            refine ⟨b614, b548, vn554, vd556, vr620, vq625, vr628, ?_, ?_, ?_, ?_, ?_, ?_, ?_, ?_, ?_, ?_, ?_, ?_, ?_, ?_, ?_, ?_, ?_, ?_, ?_⟩
            · exact (by repeat (first | exact hoff59 | refine Off.st ?_ (by decide) _))
            · exact rfl
            · exact ge_b614
            · exact (Nat.lt_trans lt_b7_b548 lt_b548_b614)
            · exact ge_b548
            · exact lt_b7_b548
            · exact (Nat.ne_of_gt lt_b548_b614)
            · exact hx
            · exact hdx
            · exact hE
            · exact hb4
            · exact hb9
            · exact hn555
            · exact hd557
            · exact hr621
            · exact hq626
            · exact hr629
            · exact hb616
            · exact hb550
        · refine RS.run rfl rfl rfl (by decide) (h_alloc (cs := [(.bool false), (.slice none 0 0)]) ty40 rfl) ?_ RS.nil
          rintro _ w641 ⟨b642, rfl, hs645, hb644, he643⟩
          refine ⟨.inr (.inr he643), RA.more (S' := fun u => Ext _ u) (fun u hu => Ext.trans he643 hu) ?_⟩
          have lt_b548_b642 := Nat.lt_of_lt_of_eq hb550.lt hs645.symm
          have ge_b642 : w.heap.size ≤ b642 := by rw [hs645]; exact hE.size
          replace hE := Below.ext hE hE.size he643
          refine RA.all [1] (by kernel_rfl) rfl ?_
          replace hx := hx.tr (Sm.ext he643)
          replace hdx := hdx.tr (Sm.ext he643)
          refine RS.call rfl rfl rfl (by decide) (r_call (vl := [(.agg #[(.bool (sx)), vx, ux])]) ent38 rfl) (r03_norm hx (by assumption) (by first | omega | simp) hdx (by assumption) (by first | omega | simp) (show ratOf sx (val x) (val dx) = qx from ex)) ?_ RS.nil
          rintro _ w646 ⟨⟨vn648, vd650, rfl, hn649, hd651, hl652, hl653⟩, he647⟩
          refine ⟨.inr (.inr he647), RA.more (S' := fun u => Ext _ u) (fun u hu => Ext.trans he647 hu) ?_⟩
          have hlv654 := den_one qx
          replace hn649 := hn649.mono (D' := fun b T => w.heap.size ≤ b ∧ T = 52) (fun b T h => ⟨Nat.le_trans hE.size h.1, h.2⟩)
          replace hd651 := hd651.mono (D' := fun b T => w.heap.size ≤ b ∧ T = 52) (fun b T h => ⟨Nat.le_trans hE.size h.1, h.2⟩)
          replace hE := Below.ext hE hE.size he647
          refine RA.take 2 rfl (by kernel_rfl) rfl rfl (by decide) (fun _ => r_fielda Try.underlying42 rfl Try.underlying40 ag40 ty40 rfl) ?_
          refine RA.all [4] (by kernel_rfl) rfl ?_
          replace hx := hx.tr (Sm.ext he647)
          replace hdx := hdx.tr (Sm.ext he647)
          refine RS.call rfl rfl rfl (by decide) (r_call (vl := [(.agg #[(.bool (sx)), vx, ux])]) ent39 rfl) (r03_den hx (by assumption) (by first | omega | simp) hdx (by assumption) (by first | omega | simp) (show ratOf sx (val x) (val dx) = qx from ex)) ?_ RS.nil
          rintro _ w655 ⟨⟨vr657, rfl, hr658, hl659⟩, he656⟩
          refine ⟨.inr (.inr he656), RA.more (S' := fun u => Ext _ u) (fun u hu => Ext.trans he656 hu) ?_⟩
          replace hr658 := hr658.mono (D' := fun b T => w.heap.size ≤ b ∧ T = 52) (fun b T h => ⟨Nat.le_trans hE.size h.1, h.2⟩)
          replace hE := Below.ext hE hE.size he656
          refine RA.all [5] (by kernel_rfl) rfl ?_
          replace hn649 := hn649.tr (Sm.ext he656)
          refine RS.call rfl rfl rfl (by decide) (r_call (vl := [(.agg #[(.bool (decide (qx.num < 0))), vn648]), (.agg #[(.bool (decide (((qx.den : Nat) : Int) < 0))), vr657])]) ent44 rfl) (r02_divmod hn649 (digs_lm _) (by first | omega | simp) (sg_canon _) hr658 (digs_lm _) (by first | omega | simp) (sg_canon _)) ?_ RS.nil
          rintro _ w660 ⟨⟨vq662, vr665, rfl, hq663, hl664, hr666, hl667⟩, he661⟩
          refine ⟨.inr (.inr he661), RA.more (S' := fun u => Ext _ u) (fun u hu => Ext.trans he661 hu) ?_⟩
          replace hq663 := hq663.mono (D' := fun b T => w.heap.size ≤ b ∧ T = 52) (fun b T h => ⟨Nat.le_trans hE.size h.1, h.2⟩)
          replace hr666 := hr666.mono (D' := fun b T => w.heap.size ≤ b ∧ T = 52) (fun b T h => ⟨Nat.le_trans hE.size h.1, h.2⟩)
          replace hE := Below.ext hE hE.size he661
          refine RA.take 6 rfl (by kernel_rfl) rfl rfl (by decide) (fun _ => r_move_as (v := (.tuple #[(.agg #[(.bool (decide ((qx.num / ((qx.den : Nat) : Int)) < 0))), vq662]), (.agg #[(.bool (decide ((modI qx.num ((qx.den : Nat) : Int)) < 0))), vr665]), (.bool (decide (((qx.den : Nat) : Int) ≠ 0)))])) rfl) ?_
          refine RA.take 7 rfl (by kernel_rfl) rfl rfl (by decide) (fun _ => r_extract (v := (.agg #[(.bool (decide ((qx.num / ((qx.den : Nat) : Int)) < 0))), vq662])) rfl rfl) ?_
          refine RA.take 8 rfl (by kernel_rfl) rfl rfl (by decide) (fun _ => r_extract (v := (.agg #[(.bool (decide ((modI qx.num ((qx.den : Nat) : Int)) < 0))), vr665])) rfl rfl) ?_
          refine RA.take 9 rfl (by kernel_rfl) rfl rfl (by decide) (fun _ => r_extract (v := (.bool (decide (((qx.den : Nat) : Int) ≠ 0)))) rfl rfl) ?_
          refine RA.all [12] (by kernel_rfl) rfl ?_
          have hm672 := Ext.trans he647 (Ext.trans he656 he661)
          replace hb644 := hb644.ext hm672
          refine RS.runs rfl rfl rfl (h_store (vv := (.agg #[(.bool (decide ((qx.num / ((qx.den : Nat) : Int)) < 0))), vq662])) (cs := [(.bool (decide ((qx.num / ((qx.den : Nat) : Int)) < 0))), vq662]) (o := 0) ty40 rfl rfl rfl rfl (one_cons rfl (one_cons hq663.one one_nil)) hb644 (Nat.le_of_ble_eq_true rfl)) ?_ RS.nil
          rintro w668 ⟨hn669, hx670, hz671⟩
          refine ⟨.inr (.inl (by kernel_rfl)), ?_⟩
          replace hE := Below.exc hE hE.size hx670 ge_b642
          have nb_hx670 := (Nb.of hb644 (nu_cons rfl (nu_cons rfl nu_nil)))
          replace hb644 : Bk w668 b642 40 [(.bool (decide ((qx.num / ((qx.den : Nat) : Int)) < 0))), vq662] := hn669
          refine RA.all [13] (by kernel_rfl) rfl ?_
          have hm677 := Ext.trans he643 (Ext.trans he647 (Ext.trans he656 he661))
          replace hb550 := (hb550.ext hm677).exc hx670 (Nat.ne_of_lt lt_b548_b642)
          refine RS.runs rfl rfl rfl (h_store (vv := (.agg #[(.bool (decide ((modI qx.num ((qx.den : Nat) : Int)) < 0))), vr665])) (cs := [(.bool (decide ((modI qx.num ((qx.den : Nat) : Int)) < 0))), vr665]) (o := 0) ty40 rfl rfl rfl rfl (one_cons rfl (one_cons hr666.one one_nil)) hb550 (Nat.le_of_ble_eq_true rfl)) ?_ RS.nil
          rintro w673 ⟨hn674, hx675, hz676⟩
          refine ⟨.inr (.inl (by kernel_rfl)), ?_⟩
          replace hE := Below.exc hE hE.size hx675 ge_b548
          have nb_hx675 := (Nb.of hb550 (nu_cons rfl (nu_cons rfl nu_nil)))
          replace hb550 : Bk w673 b548 40 [(.bool (decide ((modI qx.num ((qx.den : Nat) : Int)) < 0))), vr665] := hn674
          refine RA.take 14 rfl (by kernel_rfl) rfl rfl (by decide) (fun _ => r_assign_as (v := (.bool (decide (((qx.den : Nat) : Int) ≠ 0)))) rfl) ?_
          refine RA.done (by kernel_rfl) ?_
          replace hx := ((hx.tr (Sm.ext (Ext.trans he656 he661))).apn hx670 nb_hx670).apn hx675 nb_hx675
          replace hdx := ((hdx.tr (Sm.ext (Ext.trans he656 he661))).apn hx670 nb_hx670).apn hx675 nb_hx675
          have hm678 := Ext.trans he549 (Ext.trans he643 (Ext.trans he647 (Ext.trans he656 he661)))
          replace hb4 := ((hb4.ext hm678).exc hx670 (Nat.ne_of_lt (Nat.lt_trans lt_b2_b7 (Nat.lt_trans lt_b7_b548 lt_b548_b642)))).exc hx675 (Nat.ne_of_lt (Nat.lt_trans lt_b2_b7 lt_b7_b548))
          replace hb9 := ((hb9.ext hm678).exc hx670 (Nat.ne_of_lt (Nat.lt_trans lt_b7_b548 lt_b548_b642))).exc hx675 (Nat.ne_of_lt lt_b7_b548)
          replace hn649 := ((hn649.tr (Sm.ext he661)).apn hx670 nb_hx670).apn hx675 nb_hx675
          replace hd651 := ((hd651.tr (Sm.ext (Ext.trans he656 he661))).apn hx670 nb_hx670).apn hx675 nb_hx675
          replace hr658 := ((hr658.tr (Sm.ext he661)).apn hx670 nb_hx670).apn hx675 nb_hx675
          replace hq663 := (hq663.apn hx670 nb_hx670).apn hx675 nb_hx675
          replace hr666 := (hr666.apn hx670 nb_hx670).apn hx675 nb_hx675
          replace hb644 := hb644.exc hx675 (Nat.ne_of_gt lt_b548_b642)
          refine ⟨b642, b548, vn648, vd650, vr657, vq662, vr665, ?_, ?_, ?_, ?_, ?_, ?_, ?_, ?_, ?_, ?_, ?_, ?_, ?_, ?_, ?_, ?_, ?_, ?_, ?_⟩
          · exact (by repeat (first | exact hoff59 | refine Off.st ?_ (by decide) _))
          · exact rfl
          · exact ge_b642
          · exact (Nat.lt_trans lt_b7_b548 lt_b548_b642)
          · exact ge_b548
          · exact lt_b7_b548
          · exact (Nat.ne_of_gt lt_b548_b642)
          · exact hx
          · exact hdx
          · exact hE
          · exact hb4
          · exact hb9
          · exact hn649
          · exact hd651
          · exact hr658
          · exact hq663
          · exact hr666
          · exact hb644
          · exact hb550
  · clear hx hdx hE hb4 hb9
    rintro f679 w680 ⟨b41, b47, vn19, vd21, vr29, vq34, vr37, hoff681, hs682, ge_b41, lt_b7_b41, ge_b47, lt_b7_b47, ne_b41_b47, hx, hdx, hE, hb4, hb9, hn20, hd22, hr30, hq35, hr38, hb43, hb49⟩
    refine wseq ?_
    refine wregion ?_
    have hc683 := hb43.cells (o := 0) (cs := [(.bool (decide ((qx.num / ((qx.den : Nat) : Int)) < 0))), vq34]) rfl
    refine RL.val rfl rfl (by decide) (r_loada (o := 0) (cs := [(.bool (decide ((qx.num / ((qx.den : Nat) : Int)) < 0))), vq34]) Try.underlying40 ag40 ty40 hs682 hc683) ?_
    refine RL.runs rfl rfl (h_store (vv := (.agg #[(.bool (decide ((qx.num / ((qx.den : Nat) : Int)) < 0))), vq34])) (cs := [(.bool (decide ((qx.num / ((qx.den : Nat) : Int)) < 0))), vq34]) (o := 0) ty40 ((hoff681 2 rfl).trans (hF12 2)) rfl rfl rfl (one_cons rfl (one_cons hq35.one one_nil)) hb9 (Nat.le_of_ble_eq_true rfl)) ?_
    rintro w684 ⟨hn685, hx686, hz687⟩
    replace hE := Below.exc hE hE.size hx686 ge_b7
    have nb_hx686 := (Nb.of hb9 (nu_cons rfl (nu_cons rfl nu_nil)))
    replace hb9 : Bk w684 b7 40 [(.bool (decide ((qx.num / ((qx.den : Nat) : Int)) < 0))), vq34] := hn685
    refine RL.nil ?_
    refine wret ?_
    refine ⟨[(.agg #[(.bool (decide ((qx.num / ((qx.den : Nat) : Int)) < 0))), vq34])], ⟨⟨_, _, [(.bool (decide ((qx.num / ((qx.den : Nat) : Int)) < 0))), vq34], ((hoff681 2 rfl).trans (hF12 2)), ⟨_, Try.underlying40⟩, hb9.cells rfl, .inl ⟨ag40, ⟨_, _, ty40⟩, rfl⟩⟩, trivial⟩, ?_⟩
    have hq : qx.num / ((qx.den : Nat) : Int) = qx.floor := (Rat.floor_def qx).symm
    have hle := il_ediv qx.num ((qx.den : Nat) : Int)
    rw [← hq]
    replace hq35 := hq35.apn hx686 nb_hx686
    exact ⟨⟨_, rfl, hq35, by omega⟩, hE⟩

set_option maxHeartbeats 1000000 in
theorem r28_abs {w : World} {sx : Bool} {Dx Ex : Nat → TypeId → Prop} {vx ux : Value} {x dx : List Nat} (hx : Sg (gN .u32) Dx w vx x) (lmx : Lm x) (lnx : x.length ≤ 17179869184) (hdx : Sg (gN .u32) Ex w ux dx) (lmdx : Lm dx) (lndx : dx.length ≤ 17179869184) {qx : Rat} (ex : ratOf sx (val x) (val dx) = qx) :
    Calls Try.prog 28 #[(.agg #[(.bool (sx)), vx, ux])] w fun e w' => ∃ v, e = .returned v ∧ (∃ s' vn vd xn xd, v = .agg #[.bool s', vn, vd] ∧ Sg (gN .u32) (fun b T => w.heap.size ≤ b ∨ Dx b T ∨ Ex b T) w' vn xn ∧ Lm xn ∧ xn.length ≤ x.length + 1 ∧ Sg (gN .u32) (fun b T => w.heap.size ≤ b ∨ Dx b T ∨ Ex b T) w' vd xd ∧ Lm xd ∧ xd.length ≤ dx.length + 2 ∧ ratOf s' (val xn) (val xd) = absQ qx) ∧ Ext w w' := by
  have hE : Below w.heap.size w w := Below.refl _ _
  have hlqx := rl_of lmx lmdx ex
  have hdqx := den_one qx
  refine calls_of (n := 9) (rs := [.cell 2 42]) Try.func28 rfl rfl rfl (Nat.le_of_ble_eq_true rfl) ?_
  refine wset fun F0 hF0 => ?_
  refine wseq ?_
  refine wregion ?_
  refine RL.run rfl rfl (by decide) (h_box (vv := (.agg #[(.bool (sx)), vx, ux])) (cs := [(.bool (sx)), vx, ux]) (hF0 0) rfl) ?_
  rintro _ w1 ⟨b2, rfl, hs5, hb4, he3⟩
  have ge_b2 : w.heap.size ≤ b2 := by rw [hs5]; exact hE.size
  replace hE := Below.ext hE hE.size he3
  refine RL.run rfl rfl (by decide) (h_alloc (cs := [(.bool false), (.slice none 0 0), (.slice none 0 0)]) ty42 rfl) ?_
  rintro _ w6 ⟨b7, rfl, hs10, hb9, he8⟩
  have lt_b2_b7 := Nat.lt_of_lt_of_eq hb4.lt hs10.symm
  have ge_b7 : w.heap.size ≤ b7 := by rw [hs10]; exact hE.size
  replace hE := Below.ext hE hE.size he8
  refine RL.nil ?_
  refine wseq ?_
  refine wseq ?_
  refine wregion ?_
  replace hb4 := hb4.ext he8
  have hc11 := hb4.cells (o := 0) (cs := [(.bool (sx)), vx, ux]) rfl
  refine RL.val rfl rfl (by decide) (r_loada (o := 0) (cs := [(.bool (sx)), vx, ux]) Try.underlying42 ag42 ty42 rfl hc11) ?_
  replace hx := hx.tr (Sm.ext (Ext.trans he3 he8))
  replace hdx := hdx.tr (Sm.ext (Ext.trans he3 he8))
  refine RL.call rfl rfl (by decide) (r_call (vl := [(.agg #[(.bool (sx)), vx, ux])]) ent33 rfl) (r03_sign hx (by assumption) (by first | omega | simp) hdx (by assumption) (by first | omega | simp) (show ratOf sx (val x) (val dx) = qx from ex)) ?_
  rintro _ w12 ⟨rfl, he13⟩
  replace hE := Below.ext hE hE.size he13
  refine RL.val rfl rfl (by decide) (r_lss (k := .i64) (a := Int.sign qx.num) (b := 0) rfl rfl) ?_
  refine RL.nil ?_
  refine wcond (b := decide ((Int.sign qx.num) < 0)) rfl (fun hb14 => ?_) (fun hb14 => ?_)
  · have hb14p := hb14
    replace hb14p := of_decide_eq_true hb14p
    have hs : qx < 0 := (sign_lt qx).1 hb14p
    refine wseq ?_
    refine wregion ?_
    replace hb4 := hb4.ext he13
    have hc15 := hb4.cells (o := 0) (cs := [(.bool (sx)), vx, ux]) rfl
    refine RL.val rfl rfl (by decide) (r_loada (o := 0) (cs := [(.bool (sx)), vx, ux]) Try.underlying42 ag42 ty42 rfl hc15) ?_
    replace hx := hx.tr (Sm.ext he13)
    replace hdx := hdx.tr (Sm.ext he13)
    refine RL.call rfl rfl (by decide) (r_call (vl := [(.agg #[(.bool (sx)), vx, ux])]) ent48 rfl) (r03_neg hx (by assumption) (by first | omega | simp) hdx (by assumption) (by first | omega | simp) (show ratOf sx (val x) (val dx) = qx from ex)) ?_
    rintro _ w16 ⟨⟨vn18, vd20, rfl, hn19, hd21, hl22, hl23⟩, he17⟩
    have hlv24 := den_one (-qx)
    replace hn19 := hn19.mono (D' := fun b T => w.heap.size ≤ b ∧ T = 52) (fun b T h => ⟨Nat.le_trans hE.size h.1, h.2⟩)
    replace hd21 := hd21.mono (D' := fun b T => w.heap.size ≤ b ∧ T = 52) (fun b T h => ⟨Nat.le_trans hE.size h.1, h.2⟩)
    replace hE := Below.ext hE hE.size he17
    replace hb9 := hb9.ext (Ext.trans he13 he17)
    refine RL.runs rfl rfl (h_store (vv := (.agg #[(.bool (decide ((-qx).num < 0))), vn18, vd20])) (cs := [(.bool (decide ((-qx).num < 0))), vn18, vd20]) (o := 0) ty42 rfl rfl rfl rfl (one_cons rfl (one_cons hn19.one (one_cons hd21.one one_nil))) hb9 (Nat.le_of_ble_eq_true rfl)) ?_
    rintro w25 ⟨hn26, hx27, hz28⟩
    replace hE := Below.exc hE hE.size hx27 ge_b7
    have nb_hx27 := (Nb.of hb9 (nu_cons rfl (nu_cons rfl (nu_cons rfl nu_nil))))
    replace hb9 : Bk w25 b7 42 [(.bool (decide ((-qx).num < 0))), vn18, vd20] := hn26
    refine RL.nil ?_
    refine wret ?_
    refine ⟨[(.agg #[(.bool (decide ((-qx).num < 0))), vn18, vd20])], ⟨⟨_, _, [(.bool (decide ((-qx).num < 0))), vn18, vd20], rfl, ⟨_, Try.underlying42⟩, hb9.cells rfl, .inl ⟨ag42, ⟨_, _, ty42⟩, rfl⟩⟩, trivial⟩, ?_⟩
    replace hn19 := hn19.apn hx27 nb_hx27
    replace hd21 := hd21.apn hx27 nb_hx27
    exact ⟨⟨_, _, _, _, _, rfl, hn19.mono (fun b T h => .inl h.1), (digs_lm _), by omega, hd21.mono (fun b T h => .inl h.1), (digs_lm _), by omega, ((ratOf_canon _)).trans (by unfold absQ; rw [if_pos hs])⟩, hE⟩
  · have hb14p := hb14
    replace hb14p := of_decide_eq_false hb14p
    have hs : ¬ qx < 0 := fun h => hb14p ((sign_lt qx).2 h)
    refine wskip ?_
    refine wseq ?_
    refine wregion ?_
    replace hb4 := hb4.ext he13
    have hc29 := hb4.cells (o := 0) (cs := [(.bool (sx)), vx, ux]) rfl
    refine RL.val rfl rfl (by decide) (r_loada (o := 0) (cs := [(.bool (sx)), vx, ux]) Try.underlying42 ag42 ty42 rfl hc29) ?_
    replace hb9 := hb9.ext he13
    refine RL.runs rfl rfl (h_store (vv := (.agg #[(.bool (sx)), vx, ux])) (cs := [(.bool (sx)), vx, ux]) (o := 0) ty42 rfl rfl rfl rfl (one_cons rfl (one_cons hx.one (one_cons hdx.one one_nil))) hb9 (Nat.le_of_ble_eq_true rfl)) ?_
    rintro w30 ⟨hn31, hx32, hz33⟩
    replace hE := Below.exc hE hE.size hx32 ge_b7
    have nb_hx32 := (Nb.of hb9 (nu_cons rfl (nu_cons rfl (nu_cons rfl nu_nil))))
    replace hb9 : Bk w30 b7 42 [(.bool (sx)), vx, ux] := hn31
    refine RL.nil ?_
    refine wret ?_
    refine ⟨[(.agg #[(.bool (sx)), vx, ux])], ⟨⟨_, _, [(.bool (sx)), vx, ux], rfl, ⟨_, Try.underlying42⟩, hb9.cells rfl, .inl ⟨ag42, ⟨_, _, ty42⟩, rfl⟩⟩, trivial⟩, ?_⟩
    replace hx := (hx.tr (Sm.ext he13)).apn hx32 nb_hx32
    replace hdx := (hdx.tr (Sm.ext he13)).apn hx32 nb_hx32
    exact ⟨⟨_, _, _, _, _, rfl, hx.mono (fun b T h => .inr (.inl h)), (by assumption), by omega, hdx.mono (fun b T h => .inr (.inr h)), (by assumption), by omega, ((show ratOf sx (val x) (val dx) = qx from ex)).trans (by unfold absQ; rw [if_neg hs])⟩, hE⟩

end Go.Proofs.Ytppgppnkhpjlpaa
