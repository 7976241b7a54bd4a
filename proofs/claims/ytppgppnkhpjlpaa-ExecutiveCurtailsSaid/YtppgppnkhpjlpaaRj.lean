/- Walks, printed by program. -/
import Derived.Test.YtppgppnkhpjlpaaRi2
namespace Go.Proofs.Ytppgppnkhpjlpaa
open Go.Vg Go.RowKit
set_option linter.unusedVariables false

open Go.Vm

theorem take_next {qs : List Rat} {k : Nat} (h : k < qs.length) : rsum (qs.take (k + 1)) = rsum (qs.take k) + qs.getD k default := by
  rw [List.take_succ_eq_append_getElem h, rsum_snoc]
  simp [List.getD_eq_getElem?_getD, h]

set_option maxHeartbeats 1000000 in
theorem r03_sum {w : World} {Dl : Nat → TypeId → Prop} {Ll : Nat} {vl : Value} {qs : List Rat} (hl0 : Rs Ll Dl w vl qs) (hLl : Ll ≤ 1048576) (hnl : qs.length ≤ 1024) :
    Calls Try.prog 29 #[vl] w fun e w' => ∃ v, e = .returned v ∧ (∃ vn vd, v = .agg #[.bool (decide ((rsum qs).num < 0)), vn, vd] ∧ Sg (gN .u32) (fun b T => w.heap.size ≤ b ∧ T = 52) w' vn (digs (rsum qs).num.natAbs) ∧ Sg (gN .u32) (fun b T => w.heap.size ≤ b ∧ T = 52) w' vd (digs (rsum qs).den) ∧ (digs (rsum qs).num.natAbs).length ≤ 1100000000 ∧ (digs (rsum qs).den).length ≤ 1100000000) ∧ Ext w w' := by
  have hE : Below w.heap.size w w := Below.refl _ _
  have hl := hl0.old
  clear hl0
  refine calls_of (n := 19) (rs := [.cell 2 42]) Try.func29 rfl rfl rfl (Nat.le_of_ble_eq_true rfl) ?_
  refine wset fun F0 hF0 => ?_
  refine wseq ?_
  refine wregion ?_
  refine RL.run rfl rfl (by decide) (h_alloc (cs := [(.bool false), (.slice none 0 0), (.slice none 0 0)]) ty42 rfl) ?_
  rintro _ w1 ⟨b2, rfl, hs5, hb4, he3⟩
  have ge_b2 : w.heap.size ≤ b2 := by rw [hs5]; exact hE.size
  replace hE := Below.ext hE hE.size he3
  refine RL.nil ?_
  refine wseq ?_
  refine wregion ?_
  refine RL.call rfl rfl (by decide) (r_call (vl := []) ent13 rfl) (r03_zero ) ?_
  rintro _ w6 ⟨⟨vn8, vd10, rfl, hn9, hd11, hl12, hl13⟩, he7⟩
  have hlv14 := den_one (0 : Rat)
  replace hn9 := hn9.mono (D' := fun b T => w.heap.size ≤ b ∧ T = 52) (fun b T h => ⟨Nat.le_trans hE.size h.1, h.2⟩)
  replace hd11 := hd11.mono (D' := fun b T => w.heap.size ≤ b ∧ T = 52) (fun b T h => ⟨Nat.le_trans hE.size h.1, h.2⟩)
  replace hE := Below.ext hE hE.size he7
  refine RL.run rfl rfl (by decide) (h_alloc (cs := [(.bool false), (.slice none 0 0), (.slice none 0 0)]) ty42 rfl) ?_
  rintro _ w15 ⟨b16, rfl, hs19, hb18, he17⟩
  replace hb4 := hb4.ext he7
  have lt_b2_b16 := Nat.lt_of_lt_of_eq hb4.lt hs19.symm
  have ge_b16 : w.heap.size ≤ b16 := by rw [hs19]; exact hE.size
  replace hE := Below.ext hE hE.size he17
  refine RL.runs rfl rfl (h_store (vv := (.agg #[(.bool (decide ((0 : Rat).num < 0))), vn8, vd10])) (cs := [(.bool (decide ((0 : Rat).num < 0))), vn8, vd10]) (o := 0) ty42 rfl rfl rfl rfl (one_cons rfl (one_cons hn9.one (one_cons hd11.one one_nil))) hb18 (Nat.le_of_ble_eq_true rfl)) ?_
  rintro w20 ⟨hn21, hx22, hz23⟩
  replace hE := Below.exc hE hE.size hx22 ge_b16
  have nb_hx22 := (Nb.of hb18 (nu_cons rfl (nu_cons rfl (nu_cons rfl nu_nil))))
  replace hb18 : Bk w20 b16 42 [(.bool (decide ((0 : Rat).num < 0))), vn8, vd10] := hn21
  refine RL.nil ?_
  refine wseq ?_
  refine wseq ?_
  refine wregion ?_
  refine RL.val rfl rfl (by decide) (r_assign_as (v := (.int .i64 (0))) rfl) ?_
  refine RL.nil ?_
  refine wblock ?_
  refine wset fun F24 hF25 => ?_
  refine wloop (σ := Nat × Value × Value) (fun (s : Nat × Value × Value) fl wl => match s with | (k, va, vd) => Off [4, 6, 7, 8, 9, 10, 11, 12, 13, 14, 15, 16, 17] F24 fl ∧ fl 4 = (.int .i64 (((k : Nat) : Int))) ∧ (k ≤ qs.length) ∧ ((digs (rsum (qs.take k)).num.natAbs).length ≤ 1048582 + k * 1048579) ∧ ((digs (rsum (qs.take k)).den).length ≤ 1 + k * 1048579) ∧ (Bk wl b16 42 [.bool (decide ((rsum (qs.take k)).num < 0)), va, vd]) ∧ (Sg (gN .u32) (fun b T => w.heap.size ≤ b ∧ T = 52) wl va (digs (rsum (qs.take k)).num.natAbs)) ∧ (Sg (gN .u32) (fun b T => w.heap.size ≤ b ∧ T = 52) wl vd (digs (rsum (qs.take k)).den)) ∧ (Below w.heap.size w wl) ∧ (Rs Ll (fun b T => Dl b T ∧ b < w.heap.size) wl vl qs) ∧ (Bk wl b2 42 [(.bool false), (.slice none 0 0), (.slice none 0 0)]) ∧ (Sg (gN .u32) (fun b T => w.heap.size ≤ b ∧ T = 52) wl vn8 (digs (0 : Rat).num.natAbs)) ∧ (Sg (gN .u32) (fun b T => w.heap.size ≤ b ∧ T = 52) wl vd10 (digs (0 : Rat).den))) (fun (s : Nat × Value × Value) => match s with | (k, va, vd) => qs.length - k) (0, vn8, vd10) ?_ ?_
  · replace hn9 := (hn9.tr (Sm.ext he17)).apn hx22 nb_hx22
    replace hd11 := (hd11.tr (Sm.ext he17)).apn hx22 nb_hx22
    have hm26 := Ext.trans he3 (Ext.trans he7 he17)
    replace hl := (hl.tr (Sm.ext hm26)).tr (Sm.exc hx22 (fun _ _ _ _ hd => absurd hd.2 (Nat.not_lt_of_le ge_b16)))
    replace hb4 := (hb4.ext he17).exc hx22 (Nat.ne_of_lt lt_b2_b16)
    exact ⟨Off.refl _ _, (hF25 4).trans (rfl), Nat.zero_le _, Nat.zero_le _, Nat.le_refl _, hb18, hn9, hd11, hE, hl, hb4, hn9, hd11⟩
  · clear hl hE hb4 hn9 hd11 hb18
    rintro ⟨k, va, vd⟩ f27 w28 ⟨hoff29, hs30, hk, hp, hq, hb18, ha, hd, hE, hl, hb4, hn9, hd11⟩
    refine wseq ?_
    refine wseq ?_
    refine wregion ?_
    refine RL.val rfl rfl (by decide) (r_move_as (v := (.int .i64 (((k : Nat) : Int)))) hs30) ?_
    refine RL.val rfl rfl (by decide) (r_move_as (v := vl) ((hoff29 0 rfl).trans ((hF25 0).trans (hF0 0)))) ?_
    obtain ⟨A31, c32, hv33, hc34, hc35⟩ := hl.len
    refine RL.val rfl rfl (by decide) (r_len Try.underlying37 hv33) ?_
    refine RL.val rfl rfl (by decide) (r_lss (k := .i64) (a := ((k : Nat) : Int)) (b := ((qs.length : Nat) : Int)) rfl rfl) ?_
    refine RL.nil ?_
    refine wcond (b := decide (((k : Nat) : Int) < ((qs.length : Nat) : Int))) rfl (fun hb36 => ?_) (fun hb36 => ?_)
    · have hb36p := hb36
      replace hb36p := of_decide_eq_true hb36p
      refine wskip ?_
      refine wseq ?_
      refine wblock ?_
      have hkl : k < qs.length := by omega
      refine wdraw mixed fun w37 he38 => ?_
      replace hE := Below.ext hE hE.size he38
      replace hb18 := hb18.ext he38
      have hc39 := hb18.cells (o := 0) (cs := [(.bool (decide ((rsum (qs.take k)).num < 0))), va, vd]) rfl
      refine RA.rd 0 rfl (by kernel_rfl) rfl rfl rfl (by decide) (Ext.refl _) (fun u hu => r_loada (o := 0) (cs := [(.bool (decide ((rsum (qs.take k)).num < 0))), va, vd]) Try.underlying42 ag42 ty42 ((hoff29 3 rfl).trans (hF25 3)) (fun j v hj => cell_ext hu (hc39 j v hj))) ?_
      refine RA.take 1 rfl (by kernel_rfl) rfl rfl (by decide) (fun _ => r_move_as (v := vl) ((hoff29 0 rfl).trans ((hF25 0).trans (hF0 0)))) ?_
      refine RA.take 2 rfl (by kernel_rfl) rfl rfl (by decide) (fun _ => r_move_as (v := (.int .i64 (((k : Nat) : Int)))) hs30) ?_
      replace hl := hl.tr (Sm.ext he38)
      obtain ⟨b40, o41, c42, s45, vn46, vd47, x48, d49, hv43, hc44, hx50, lm51, ln52, hd53, lm54, ln55, eq56⟩ := hl.ix (i := ((k : Nat) : Int)) (k) (by omega) (by omega)
      refine RA.take 3 rfl (by kernel_rfl) rfl rfl (by decide) (fun _ => r_indexAddr (i := ((k : Nat) : Int)) Try.underlying37 ty42 hv43 rfl (by omega) (by omega)) ?_
      refine RA.rd 4 rfl (by kernel_rfl) rfl rfl rfl (by decide) (Ext.refl _) (fun u hu => r_loada (cs := [(.bool (s45)), vn46, vd47]) Try.underlying42 ag42 ty42 rfl (fun j v hj => cell_ext hu (hc44 j v hj))) ?_
      refine RA.all [5] (by kernel_rfl) rfl ?_
      replace ha := ha.tr (Sm.ext he38)
      replace hd := hd.tr (Sm.ext he38)
      refine RS.call rfl rfl rfl (by decide) (r_call (vl := [(.agg #[(.bool (decide ((rsum (qs.take k)).num < 0))), va, vd]), (.agg #[(.bool (s45)), vn46, vd47])]) ent49 rfl) (r03_add ha (digs_lm _) (by first | omega | simp) hd (digs_lm _) (by first | omega | simp) (ratOf_canon _) hx50 lm51 (by first | omega | simp) hd53 lm54 (by first | omega | simp) (show ratOf s45 (val x48) (val d49) = qs.getD (k) default from eq56)) ?_ RS.nil
      rintro _ w57 ⟨⟨vn59, vd61, rfl, hn60, hd62, hl63, hl64⟩, he58⟩
      refine ⟨.inr (.inr he58), RA.more (S' := fun u => Ext _ u) (fun u hu => Ext.trans he58 hu) ?_⟩
      have hlv65 := den_one ((rsum (qs.take k)) + (qs.getD (k) default))
      replace hn60 := hn60.mono (D' := fun b T => w.heap.size ≤ b ∧ T = 52) (fun b T h => ⟨Nat.le_trans hE.size h.1, h.2⟩)
      replace hd62 := hd62.mono (D' := fun b T => w.heap.size ≤ b ∧ T = 52) (fun b T h => ⟨Nat.le_trans hE.size h.1, h.2⟩)
      replace hE := Below.ext hE hE.size he58
      refine RA.all [6] (by kernel_rfl) rfl ?_
      replace hb18 := hb18.ext he58
      refine RS.runs rfl rfl rfl (h_store (vv := (.agg #[(.bool (decide (((rsum (qs.take k)) + (qs.getD (k) default)).num < 0))), vn59, vd61])) (cs := [(.bool (decide (((rsum (qs.take k)) + (qs.getD (k) default)).num < 0))), vn59, vd61]) (o := 0) ty42 ((hoff29 3 rfl).trans (hF25 3)) rfl rfl rfl (one_cons rfl (one_cons hn60.one (one_cons hd62.one one_nil))) hb18 (Nat.le_of_ble_eq_true rfl)) ?_ RS.nil
      rintro w66 ⟨hn67, hx68, hz69⟩
      refine ⟨.inr (.inl (by kernel_rfl)), ?_⟩
      replace hE := Below.exc hE hE.size hx68 ge_b16
      have nb_hx68 := (Nb.of hb18 (nu_cons rfl (nu_cons ha.nu (nu_cons hd.nu nu_nil))))
      replace hb18 : Bk w66 b16 42 [(.bool (decide (((rsum (qs.take k)) + (qs.getD (k) default)).num < 0))), vn59, vd61] := hn67
      refine RA.done (by kernel_rfl) ?_
      refine wregion ?_
      refine RL.val rfl rfl (by decide) (r_move_as (v := (.int .i64 (((k : Nat) : Int)))) hs30) ?_
      refine RL.val rfl rfl (by decide) (r_add (k := .i64) (a := ((k : Nat) : Int)) (b := 1) (c := ((k : Nat) : Int) + 1) rfl rfl (wi64 (by omega))) ?_
      refine RL.val rfl rfl (by decide) (r_assign_as (v := (.int .i64 (((k : Nat) : Int) + 1))) rfl) ?_
      refine RL.nil ?_
      replace hn60 := hn60.apn hx68 nb_hx68
      replace hd62 := hd62.apn hx68 nb_hx68
      replace hl := (hl.tr (Sm.ext he58)).tr (Sm.exc hx68 (fun _ _ _ _ hd => absurd hd.2 (Nat.not_lt_of_le ge_b16)))
      replace hb4 := (hb4.ext (Ext.trans he38 he58)).exc hx68 (Nat.ne_of_lt lt_b2_b16)
      replace hn9 := (hn9.tr (Sm.ext (Ext.trans he38 he58))).apn hx68 nb_hx68
      replace hd11 := (hd11.tr (Sm.ext (Ext.trans he38 he58))).apn hx68 nb_hx68
      refine ⟨(k + 1, vn59, vd61), ⟨?_, ?_, ?_, ?_, ?_, ?_, ?_, ?_, ?_, ?_, ?_, ?_, ?_⟩, ?_⟩
      · exact (by repeat (first | exact hoff29 | refine Off.st ?_ (by decide) _))
      · first | rfl | exact int_eq (by omega) | exact bool_eq (by simp)
      · omega
      · rw [take_next hkl]; omega
      · rw [take_next hkl]; omega
      · rw [take_next hkl]; exact hb18
      · rw [take_next hkl]; exact hn60
      · rw [take_next hkl]; exact hd62
      · exact hE
      · exact hl
      · exact hb4
      · exact hn9
      · exact hd11
      · (try dsimp only)
        omega
    · have hb36p := hb36
      replace hb36p := of_decide_eq_false hb36p
      refine wexit ?_
      refine wseq ?_
      have hkn : qs.take k = qs := List.take_of_length_le (by omega)
      refine wregion ?_
      have hc70 := hb18.cells (o := 0) (cs := [(.bool (decide ((rsum (qs.take k)).num < 0))), va, vd]) rfl
      refine RL.val rfl rfl (by decide) (r_loada (o := 0) (cs := [(.bool (decide ((rsum (qs.take k)).num < 0))), va, vd]) Try.underlying42 ag42 ty42 ((hoff29 3 rfl).trans (hF25 3)) hc70) ?_
      refine RL.runs rfl rfl (h_store (vv := (.agg #[(.bool (decide ((rsum (qs.take k)).num < 0))), va, vd])) (cs := [(.bool (decide ((rsum (qs.take k)).num < 0))), va, vd]) (o := 0) ty42 ((hoff29 2 rfl).trans (hF25 2)) rfl rfl rfl (one_cons rfl (one_cons ha.one (one_cons hd.one one_nil))) hb4 (Nat.le_of_ble_eq_true rfl)) ?_
      rintro w71 ⟨hn72, hx73, hz74⟩
      replace hE := Below.exc hE hE.size hx73 ge_b2
      have nb_hx73 := (Nb.of hb4 (nu_cons rfl (nu_cons rfl (nu_cons rfl nu_nil))))
      replace hb4 : Bk w71 b2 42 [(.bool (decide ((rsum (qs.take k)).num < 0))), va, vd] := hn72
      refine RL.nil ?_
      refine wret ?_
      refine ⟨[(.agg #[(.bool (decide ((rsum (qs.take k)).num < 0))), va, vd])], ⟨⟨_, _, [(.bool (decide ((rsum (qs.take k)).num < 0))), va, vd], ((hoff29 2 rfl).trans (hF25 2)), ⟨_, Try.underlying42⟩, hb4.cells rfl, .inl ⟨ag42, ⟨_, _, ty42⟩, rfl⟩⟩, trivial⟩, ?_⟩
      replace ha := ha.apn hx73 nb_hx73
      replace hd := hd.apn hx73 nb_hx73
      rw [hkn] at hp hq ha hd ⊢
      exact ⟨⟨_, _, rfl, ha, hd, by omega, by omega⟩, hE⟩

end Go.Proofs.Ytppgppnkhpjlpaa
