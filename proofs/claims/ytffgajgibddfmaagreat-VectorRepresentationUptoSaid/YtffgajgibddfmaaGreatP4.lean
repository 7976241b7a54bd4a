/- VectorRepresentation, second form: for arguments of bulk at most 1048576 the law returns true and the arguments read as before; no other condition. Part 4 of 8: Nj Ia Mquo Rg Rh Qa. -/
import Derived.Test.YtffgajgibddfmaaGreatP3
set_option linter.unusedVariables false
set_option linter.unusedSimpArgs false
namespace Go.Proofs.YtffgajgibddfmaaGreat
open Go.Vg Go.RowKit _root_.Go.Proofs.Tryz
set_option linter.unusedVariables false
open Go.Vm
set_option maxHeartbeats 4000000 in
theorem n_gcd {w : World} {Dx : Nat → TypeId → Prop} {vx : Value} {x : List Nat} (hx0 : Sg (gN .u32) Dx w vx x) (lmx : Lm x) (lnx : x.length ≤ 549755813888) {Dy : Nat → TypeId → Prop} {vy : Value} {y : List Nat} (hy0 : Sg (gN .u32) Dy w vy y) (lmy : Lm y) (lny : y.length ≤ 549755813888) :
    Calls Tryz.prog 105 #[vx, vy] w fun e w' => ∃ v, e = .returned v ∧ Sg (gN .u32) (fun b T => w.heap.size ≤ b ∧ T = 96) w' v (digs (Nat.gcd (val x) (val y))) ∧ Ext w w' := by
 have hE : Below w.heap.size w w := Below.refl _ _
 have hx := hx0.old
 clear hx0
 have hy := hy0.old
 clear hy0
 have hlvx := dl_val lmx
 have hlvy := dl_val lmy
 refine calls_of (n := 86) (rs := [.tmp 4]) func105 rfl rfl rfl (Nat.le_of_ble_eq_true rfl) ?_
 refine wset fun F0 hF0 => ?_
 refine wsr (aS (v := (.slice none (0) (0))) rfl (RL.nil (wsr (mV (v := vx) (hF0 0) ?_))))
 refine cL ent112 (n_cut hx (by assumption) (by first | omega | (simp; done) | (simp; omega))) rfl ?_
 rintro vr2 _ ⟨hr3, rfl⟩
 have hlv4 := dl_val (x := x) (by assumption)
 refine mV (v := vy) (hF0 1) ?_
 refine cL ent112 (n_cut hy (by assumption) (by first | omega | (simp; done) | (simp; omega))) rfl ?_
 rintro vr6 _ ⟨hr7, rfl⟩
 have hlv8 := dl_val (x := y) (by assumption)
 refine aS (v := vr2) rfl (aS (v := vr6) rfl (RL.nil ?_))
 refine wset fun F9 hF10 => ?_
 refine wcut (fun fl wl => ∃ a : Nat, ∃ b : Nat, ∃ va : Value, ∃ vb : Value, Off [0, 1, 15, 16, 17, 18, 19, 20] F9 fl ∧ fl 0 = va ∧ fl 1 = vb ∧ (b ≤ a) ∧ (Nat.gcd a b = Nat.gcd (val x) (val y)) ∧ ((digs a).length ≤ 549755813888) ∧ (Sg (gN .u32) (fun _ _ => True) wl va (digs a)) ∧ (Sg (gN .u32) (fun _ _ => True) wl vb (digs b)) ∧ (Sg (gN .u32) (fun b T => Dx b T ∧ b < w.heap.size) wl vx x) ∧ (Sg (gN .u32) (fun b T => Dy b T ∧ b < w.heap.size) wl vy y) ∧ (Below w.heap.size w wl) ∧ (Sg (gN .u32) (fun b T => Dx b T ∧ b < w.heap.size) wl vr2 (digs (val x))) ∧ (Sg (gN .u32) (fun b T => Dy b T ∧ b < w.heap.size) wl vr6 (digs (val y)))) ?_ ?_
 ·have hoff11 := Off.refl [0, 1, 15, 16, 17, 18, 19, 20] F9
  refine wsr (mV (v := vr2) (hF10 0) (mV (v := vr6) (hF10 1) ?_))
  refine cL ent77 (n_compare hr3 (digs_lm _) (by first | omega | simp) hr7 (digs_lm _) (by first | omega | simp)) rfl ?_
  rintro vq15 w12 ⟨hq14, he13⟩
  simp only [val_digs] at hq14
  subst hq14
  replace hE := hE.nx he13
  refine rV (r_lss (k := .i64) (a := cmpI (((val x) : Nat) : Int) (((val y) : Nat) : Int)) (b := 0) rfl rfl) (RL.nil ?_)
  refine wcond (b := decide ((cmpI (((val x) : Nat) : Int) (((val y) : Nat) : Int)) < 0)) rfl (fun hb16 => ?_) (fun hb16 => ?_)
  ·have hb16p := of_decide_eq_true hb16
   have hlt : val x < val y := by have := cmpI_neg.1 hb16p; omega
   refine wregion (mV (v := vr6) (hF10 1) (mV (v := vr2) (hF10 0) (aS (v := vr6) rfl (aS (v := vr2) rfl (RL.nil ?_)))))
   replace hr7 := hr7.tr (Sm.ext he13)
   replace hr3 := hr3.tr (Sm.ext he13)
   replace hx := hx.tr (Sm.ext he13)
   replace hy := hy.tr (Sm.ext he13)
   refine ⟨(val y), (val x), vr6, vr2, ?_, ?_, ?_, ?_, ?_, ?_, ?_, ?_, ?_, ?_, ?_, ?_, ?_⟩
   · exact (by repeat (first | exact hoff11 | refine Off.st ?_ (by decide) _))
   · rfl
   · rfl
   · omega
   · first | rfl | exact Nat.gcd_comm _ _
   · omega
   · exact hr7.mono (fun _ _ _ => trivial)
   · exact hr3.mono (fun _ _ _ => trivial)
   · exact hx
   · exact hy
   · exact hE
   · exact hr3
   · exact hr7
  ·have hb16p := of_decide_eq_false hb16
   have hge : val y ≤ val x := by rcases Nat.lt_or_ge (val x) (val y) with h | h; exact absurd (cmpI_neg.2 (by omega)) hb16p; exact h
   refine wskip ?_
   replace hr3 := hr3.tr (Sm.ext he13)
   replace hr7 := hr7.tr (Sm.ext he13)
   replace hx := hx.tr (Sm.ext he13)
   replace hy := hy.tr (Sm.ext he13)
   refine ⟨(val x), (val y), vr2, vr6, ?_, ?_, ?_, ?_, ?_, ?_, ?_, ?_, ?_, ?_, ?_, ?_, ?_⟩
   · exact (by repeat (first | exact hoff11 | refine Off.st ?_ (by decide) _))
   · refine ((hF10 0)).trans ?_
     rfl
   · refine ((hF10 1)).trans ?_
     rfl
   · omega
   · first | rfl | exact Nat.gcd_comm _ _
   · omega
   · exact hr3.mono (fun _ _ _ => trivial)
   · exact hr7.mono (fun _ _ _ => trivial)
   · exact hx
   · exact hy
   · exact hE
   · exact hr3
   · exact hr7
 ·clear hx hy hE hr3 hr7
  rintro f17 w18 ⟨a, b, va, vb, hoff19, hs20, hs21, hba, hg, hla, hA, hB, hx, hy, hE, hr3, hr7⟩
  refine wseq ?_
  refine wblock ?_
  refine wset fun F22 hF23 => ?_
  refine wloop (σ := Nat × Nat × Value × Value) (fun (s : Nat × Nat × Value × Value) fl wl => match s with | (a, b, va, vb) => Off [0, 1, 4, 5, 6, 7, 8, 9, 10, 21, 22, 23, 24, 25, 26, 27, 28, 29, 30, 31, 32, 33, 34, 35, 36, 37, 38, 39, 40, 41, 42, 43, 44, 45, 46, 47, 48, 49, 50, 51, 52, 53, 54, 55, 56, 57, 58, 59, 60, 61, 62, 63, 64, 65, 66, 67, 68, 69, 70, 71, 72, 73, 74, 75, 76, 77, 78, 79, 80, 81, 82, 83] F22 fl ∧ fl 0 = va ∧ fl 1 = vb ∧ (b ≤ a) ∧ (Nat.gcd a b = Nat.gcd (val x) (val y)) ∧ ((digs a).length ≤ 549755813888) ∧ (Sg (gN .u32) (fun _ _ => True) wl va (digs a)) ∧ (Sg (gN .u32) (fun _ _ => True) wl vb (digs b)) ∧ (Sg (gN .u32) (fun b T => Dx b T ∧ b < w.heap.size) wl vx x) ∧ (Sg (gN .u32) (fun b T => Dy b T ∧ b < w.heap.size) wl vy y) ∧ (Below w.heap.size w wl) ∧ (Sg (gN .u32) (fun b T => Dx b T ∧ b < w.heap.size) wl vr2 (digs (val x))) ∧ (Sg (gN .u32) (fun b T => Dy b T ∧ b < w.heap.size) wl vr6 (digs (val y)))) (fun (s : Nat × Nat × Value × Value) => match s with | (a, b, va, vb) => b) (a, b, va, vb) ?_ ?_
  ·exact ⟨Off.refl _ _, (hF23 0).trans ((hs20).trans rfl), (hF23 1).trans ((hs21).trans rfl), hba, hg, hla, hA, hB, hx, hy, hE, hr3, hr7⟩
  ·clear hx hy hE hr3 hr7 hA hB
   rintro ⟨a, b, va, vb⟩ f24 w25 ⟨hoff26, hs27, hs28, hba, hg, hla, hA, hB, hx, hy, hE, hr3, hr7⟩
   refine wseq (wsr (mV hs28 ?_))
   obtain ⟨A29, c30, hv31, hc32, hc33⟩ := hB.len
   refine rV (r_len underlying40 hv31) (rV (r_gtr (k := .i64) (a := (((digs b).length : Nat) : Int)) (b := 0) rfl rfl) (RL.nil ?_))
   refine wcond (b := decide (0 < (((digs b).length : Nat) : Int))) rfl (fun hb34 => ?_) (fun hb34 => ?_)
   ·have hb34p := of_decide_eq_true hb34
    have hb0 : b ≠ 0 := fun h => by rw [h, digs_zero] at hb34p; exact absurd hb34p (by decide)
    have hll : (digs b).length ≤ (digs a).length := len_mono hba
    refine wskip ?_
    refine wblock ?_
    refine wseq (wsr (mV hs27 ?_))
    obtain ⟨A35, c36, hv37, hc38, hc39⟩ := hA.len
    refine rV (r_len underlying40 hv37) (rV (r_leq (k := .i64) (a := (((digs a).length : Nat) : Int)) (b := 2) rfl rfl) (RL.nil ?_))
    refine wcond (b := decide ((((digs a).length : Nat) : Int) ≤ 2)) rfl (fun hb40 => ?_) (fun hb40 => ?_)
    ·have hb40p := of_decide_eq_true hb40
     have ha64 := len_u64.2 (show len a ≤ 2 by unfold len; omega)
     refine wsr (mV hs27 ?_)
     refine cL ent126 (n_word hA (digs_lm _) (by omega)) rfl ?_
     rintro vq43 _ ⟨hq42, rfl⟩
     rw [val_digs] at hq42
     subst hq42
     refine mV hs28 ?_
     refine cL ent126 (n_word hB (digs_lm _) (by omega)) rfl ?_
     rintro vq46 _ ⟨hq45, rfl⟩
     rw [val_digs] at hq45
     subst hq45
     refine aS (v := (.int .u64 (a : Int))) rfl (aS (v := (.int .u64 (b : Int))) rfl (RL.nil (wseq ?_)))
     refine wblock ?_
     refine wset fun F47 hF48 => ?_
     refine wloop (σ := Nat × Nat) (fun (s : Nat × Nat) fl wl => match s with | (c, d) => Off [5, 6, 31, 32, 33, 34, 35, 36] F47 fl ∧ fl 5 = (.int .u64 (c : Int)) ∧ fl 6 = (.int .u64 (d : Int)) ∧ (Nat.gcd c d = Nat.gcd (val x) (val y)) ∧ (c < 18446744073709551616) ∧ (d < 18446744073709551616) ∧ (Sg (gN .u32) (fun b T => Dx b T ∧ b < w.heap.size) wl vx x) ∧ (Sg (gN .u32) (fun b T => Dy b T ∧ b < w.heap.size) wl vy y) ∧ (Below w.heap.size w wl) ∧ (Sg (gN .u32) (fun b T => Dx b T ∧ b < w.heap.size) wl vr2 (digs (val x))) ∧ (Sg (gN .u32) (fun b T => Dy b T ∧ b < w.heap.size) wl vr6 (digs (val y))) ∧ (Sg (gN .u32) (fun _ _ => True) wl va (digs a)) ∧ (Sg (gN .u32) (fun _ _ => True) wl vb (digs b))) (fun (s : Nat × Nat) => match s with | (c, d) => d) (a, b) ?_ ?_
     ·exact ⟨Off.refl _ _, (hF48 5).trans (rfl), (hF48 6).trans (rfl), hg, ha64, by omega, hx, hy, hE, hr3, hr7, hA, hB⟩
     ·clear hx hy hE hr3 hr7 hA hB
      rintro ⟨c, d⟩ f49 w50 ⟨hoff51, hs52, hs53, hcd, hc64, hd64, hx, hy, hE, hr3, hr7, hA, hB⟩
      refine wseq (wsr (mV hs53 (rV (r_neq (k := .u64) (a := (d : Int)) (b := 0) rfl rfl) (RL.nil ?_))))
      refine wcond (b := decide ((d : Int) ≠ 0)) rfl (fun hb54 => ?_) (fun hb54 => ?_)
      ·have hb54p := of_decide_eq_true hb54
       have hd0 : d ≠ 0 := by omega
       have hdm := Nat.mod_lt c (show 0 < d by omega)
       refine wskip ?_
       refine wblock ?_
       refine wdraw mixed fun w55 he56 => ?_
       replace hE := hE.nx he56
       refine ra 0 rfl (fun _ => r_move_as (v := (.int .u64 (d : Int))) hs53) ?_
       refine ra 1 rfl (fun _ => r_move_as (v := (.int .u64 (c : Int))) hs52) ?_
       refine ra 2 rfl (fun _ => r_move_as (v := (.int .u64 (d : Int))) hs53) ?_
       refine ra 3 rfl (fun _ => r_rem (k := .u64) (a := (c : Int)) (b := (d : Int)) (c := ((c % d : Nat) : Int)) rfl rfl (by omega) (remN _ _)) ?_
       refine ra 4 rfl (fun _ => r_assign_as (v := (.int .u64 (d : Int))) rfl) ?_
       refine ra 5 rfl (fun _ => r_assign_as (v := (.int .u64 (((c % d : Nat) : Int)))) rfl) ?_
       refine RA.done (by kernel_rfl) ?_
       replace hx := hx.tr (Sm.ext he56)
       replace hy := hy.tr (Sm.ext he56)
       replace hr3 := hr3.tr (Sm.ext he56)
       replace hr7 := hr7.tr (Sm.ext he56)
       replace hA := hA.tr (Sm.ext he56)
       replace hB := hB.tr (Sm.ext he56)
       refine ⟨(d, c % d), ⟨?_, ?_, ?_, ?_, ?_, ?_, ?_, ?_, ?_, ?_, ?_, ?_, ?_⟩, ?_⟩
       · exact (by repeat (first | exact hoff51 | refine Off.st ?_ (by decide) _ | refine Off.via hoff26 (by decide) ?_ | refine Off.eq hF23 ?_ | refine Off.via hoff19 (by decide) ?_ | refine Off.eq hF10 ?_))
       · first | rfl | exact int_eq (by omega) | exact bool_eq (by simp)
       · first | rfl | exact int_eq (by omega) | exact bool_eq (by simp)
       · rw [← hcd, Nat.gcd_comm, ← Nat.gcd_rec, Nat.gcd_comm]
       · omega
       · omega
       · exact hx
       · exact hy
       · exact hE
       · exact hr3
       · exact hr7
       · exact hA
       · exact hB
       · (try dsimp only)
         omega
      ·have hb54p := of_decide_eq_false hb54
       have hd0 : d = 0 := by omega
       refine wexit ?_
       refine wsr (mV hs52 ?_)
       refine cL ent102 (n_from (by omega)) rfl ?_
       rintro vr59 w57 ⟨hr60, he58⟩
       replace hr60 := hr60.fr hE
       replace hE := hE.nx he58
       have hlv61 := dl_u64 (n := c) (by omega)
       refine aS (v := vr59) rfl (RL.nil ?_)
       refine wret ?_
       refine ⟨[vr59], ⟨rfl, trivial⟩, ?_⟩
       rw [hd0, Nat.gcd_zero_right] at hcd
       rw [← hcd]
       exact ⟨hr60, hE⟩
    ·have hb40p := of_decide_eq_false hb40
     refine wskip ?_
     refine wsr (mV hs27 (mV hs28 ?_))
     refine cL ent127 (n_leading hA (digs_lm _) (by omega) hB (digs_lm _) (by omega) (by omega) (top_nz (by omega)) (len_mono hba) (by rw [val_digs, val_digs]; exact hba)) rfl ?_
     rintro _ w62 ⟨⟨u0, u1, v0, v1, e, rfl, hu0, hu1, hv0, hv1, hfn⟩, he63⟩
     simp only [val_digs] at hfn
     replace hE := hE.nx he63
     refine rU (h_alloc (cs := [(.int .u64 0), (.int .u64 0), (.int .u64 0), (.int .u64 0), (.bool false)]) ty138 rfl) ?_
     rintro _ w64 ⟨b65, rfl, hs68, hb67, he66⟩
     have ge_b65 := hE.ge hs68
     replace hE := hE.nx he66
     refine RL.runs rfl rfl (h_store (vv := (.agg #[(.int .u64 (u0 : Int)), (.int .u64 (u1 : Int)), (.int .u64 (v0 : Int)), (.int .u64 (v1 : Int)), (.bool e)])) (cs := [(.int .u64 (u0 : Int)), (.int .u64 (u1 : Int)), (.int .u64 (v0 : Int)), (.int .u64 (v1 : Int)), (.bool e)]) (o := 0) ty138 rfl rfl rfl rfl (one_cons rfl (one_cons rfl (one_cons rfl (one_cons rfl (one_cons rfl one_nil))))) hb67 (Nat.le_of_ble_eq_true rfl)) ?_
     rintro w69 ⟨hn70, hx71, hz72⟩
     replace hE := hE.nb hx71 ge_b65
     have nb_hx71 := (Nb.of hb67 (nu_cons rfl (nu_cons rfl (nu_cons rfl (nu_cons rfl (nu_cons rfl nu_nil))))))
     replace hb67 : Bk w69 b65 138 [(.int .u64 (u0 : Int)), (.int .u64 (u1 : Int)), (.int .u64 (v0 : Int)), (.int .u64 (v1 : Int)), (.bool e)] := hn70
     refine RL.nil (wseq (wsr (rV (r_fieldAddr underlying138 rfl ty82 rfl) ?_)))
     have hc73 := hb67.cell (j := 2) (u := (.int .u64 (v0 : Int))) rfl
     refine rV (r_load underlying82 ag82 rfl hc73) (rV (r_eql (k := .u64) (a := (v0 : Int)) (b := 0) rfl rfl) (RL.nil ?_))
     refine wcond (b := decide ((v0 : Int) = 0)) rfl (fun hb74 => ?_) (fun hb74 => ?_)
     ·have hb74p := of_decide_eq_true hb74
      refine wsr (mV hs27 (mV hs28 ?_))
      replace hA := (hA.tr (Sm.ext (Ext.trans he63 he66))).apn hx71 nb_hx71
      replace hB := (hB.tr (Sm.ext (Ext.trans he63 he66))).apn hx71 nb_hx71
      refine cL ent106 (n_divmod hA (digs_lm _) (by first | omega | simp) hB (digs_lm _) (by first | omega | simp)) rfl ?_
      rintro vv81 w75 ⟨⟨vq77, vr79, hv82, hq78, hr80⟩, he76⟩
      simp only [val_digs] at hv82 hq78 hr80
      subst hv82
      have hlv83 := dl_div a b
      have hlv84 := dl_modZ a b
      have hlv85 := dl_modZ' a b
      replace hq78 := hq78.fr hE
      replace hr80 := hr80.fr hE
      replace hE := hE.nx he76
      refine mV (v := (.tuple #[vq77, vr79, (.bool (decide (b ≠ 0)))])) rfl (rV (r_extract (v := vq77) rfl rfl) (rV (r_extract (v := vr79) rfl rfl) (rV (r_extract (v := (.bool (decide (b ≠ 0)))) rfl rfl) (aS (v := vq77) rfl (aS (v := vr79) rfl (aS (v := (.bool (decide (b ≠ 0)))) rfl (RL.nil (wsr (mV hs28 (mV (v := vr79) rfl (aS (v := vb) rfl (aS (v := vr79) rfl (RL.nil ?_)))))))))))))
      refine wexit ?_
      replace hB := hB.tr (Sm.ext he76)
      replace hx := ((hx.tr (Sm.ext (Ext.trans he63 he66))).tr (Sm.exc hx71 (fun _ _ _ _ hd => absurd hd.2 (Nat.not_lt_of_le ge_b65)))).tr (Sm.ext he76)
      replace hy := ((hy.tr (Sm.ext (Ext.trans he63 he66))).tr (Sm.exc hx71 (fun _ _ _ _ hd => absurd hd.2 (Nat.not_lt_of_le ge_b65)))).tr (Sm.ext he76)
      replace hr3 := ((hr3.tr (Sm.ext (Ext.trans he63 he66))).tr (Sm.exc hx71 (fun _ _ _ _ hd => absurd hd.2 (Nat.not_lt_of_le ge_b65)))).tr (Sm.ext he76)
      replace hr7 := ((hr7.tr (Sm.ext (Ext.trans he63 he66))).tr (Sm.exc hx71 (fun _ _ _ _ hd => absurd hd.2 (Nat.not_lt_of_le ge_b65)))).tr (Sm.ext he76)
      refine ⟨(b, (modZ a b), vb, vr79), ⟨?_, ?_, ?_, ?_, ?_, ?_, ?_, ?_, ?_, ?_, ?_, ?_, ?_⟩, ?_⟩
      · exact (by repeat (first | exact hoff26 | refine Off.st ?_ (by decide) _ | refine Off.via hoff19 (by decide) ?_ | refine Off.eq hF10 ?_))
      · first | rfl | exact int_eq (by omega) | exact bool_eq (by simp)
      · first | rfl | exact int_eq (by omega) | exact bool_eq (by simp)
      · rw [show modZ a b = a % b from if_neg hb0]; exact Nat.le_of_lt (Nat.mod_lt _ (by omega))
      · rw [← hg, show modZ a b = a % b from if_neg hb0, Nat.gcd_comm, ← Nat.gcd_rec, Nat.gcd_comm]
      · omega
      · exact hB.mono (fun _ _ _ => trivial)
      · exact hr80.mono (fun _ _ _ => trivial)
      · exact hx
      · exact hy
      · exact hE
      · exact hr3
      · exact hr7
      · (try dsimp only)
        first | (rw [show modZ a b = a % b from if_neg hb0]; exact Nat.mod_lt _ (by omega)) | exact Nat.lt_of_lt_of_le hf.2.2.2.1 hf.2.2.2.2
     ·have hb74p := of_decide_eq_false hb74
      have hv0n : v0 ≠ 0 := by omega
      refine wskip ?_
      refine wsr (rV (r_fieldAddr underlying138 rfl ty4 rfl) ?_)
      have hc86 := hb67.cell (j := 4) (u := (.bool e)) rfl
      refine rV (r_load underlying4 ag4 rfl hc86) (RL.nil ?_)
      refine wcond (b := e) rfl (fun hb87 => ?_) (fun hb87 => ?_)
      ·have hb87p := hb87
       have hf := (hfn hv0n).1 hb87
       rw [Nat.mul_comm u0, Nat.mul_comm v0, Nat.mul_comm v1, Nat.mul_comm u1] at hf
       refine wdraw mixed fun w88 he89 => ?_
       replace hE := hE.nx he89
       refine ra 0 rfl (fun _ => r_move_as (v := va) hs27) ?_
       refine ra 1 rfl (fun _ => r_fieldAddr underlying138 rfl ty82 rfl) ?_
       replace hb67 := hb67.ext he89
       have hc90 := hb67.cell (j := 0) (u := (.int .u64 (u0 : Int))) rfl
       refine RA.rd 2 rfl (by kernel_rfl) rfl rfl rfl (by decide) (Ext.refl _) (fun u hu => r_load underlying82 ag82 rfl (cell_ext hu hc90)) ?_
       refine ra 3 rfl (fun _ => r_move_as (v := vb) hs28) ?_
       refine ra 4 rfl (fun _ => r_fieldAddr underlying138 rfl ty82 rfl) ?_
       have hc91 := hb67.cell (j := 2) (u := (.int .u64 (v0 : Int))) rfl
       refine RA.rd 5 rfl (by kernel_rfl) rfl rfl rfl (by decide) (Ext.refl _) (fun u hu => r_load underlying82 ag82 rfl (cell_ext hu hc91)) ?_
       refine ra 7 rfl (fun _ => r_move_as (v := vb) hs28) ?_
       refine ra 8 rfl (fun _ => r_fieldAddr underlying138 rfl ty82 rfl) ?_
       have hc92 := hb67.cell (j := 3) (u := (.int .u64 (v1 : Int))) rfl
       refine RA.rd 9 rfl (by kernel_rfl) rfl rfl rfl (by decide) (Ext.refl _) (fun u hu => r_load underlying82 ag82 rfl (cell_ext hu hc92)) ?_
       refine ra 10 rfl (fun _ => r_move_as (v := va) hs27) ?_
       refine ra 11 rfl (fun _ => r_fieldAddr underlying138 rfl ty82 rfl) ?_
       have hc93 := hb67.cell (j := 1) (u := (.int .u64 (u1 : Int))) rfl
       refine RA.rd 12 rfl (by kernel_rfl) rfl rfl rfl (by decide) (Ext.refl _) (fun u hu => r_load underlying82 ag82 rfl (cell_ext hu hc93)) ?_
       refine RA.all [6] (by kernel_rfl) rfl ?_
       replace hA := ((hA.tr (Sm.ext (Ext.trans he63 he66))).apn hx71 nb_hx71).tr (Sm.ext he89)
       replace hB := ((hB.tr (Sm.ext (Ext.trans he63 he66))).apn hx71 nb_hx71).tr (Sm.ext he89)
       refine RS.call rfl rfl rfl (by decide) (r_call (vl := [va, (.int .u64 (u0 : Int)), vb, (.int .u64 (v0 : Int))]) ent128 rfl) (n_combine hA (digs_lm _) (by first | omega | simp) hB (digs_lm _) (by first | omega | simp) (by omega) (by omega)) ?_ RS.nil
       rintro vr96 w94 ⟨hr97, he95⟩
       refine rm he95 ?_
       try rw [val_digs] at hr97
       try rw [val_digs] at hr97
       replace hr97 := hr97.fr hE
       replace hE := hE.nx he95
       refine RA.all [13] (by kernel_rfl) rfl ?_
       replace hB := hB.tr (Sm.ext he95)
       replace hA := hA.tr (Sm.ext he95)
       refine RS.call rfl rfl rfl (by decide) (r_call (vl := [vb, (.int .u64 (v1 : Int)), va, (.int .u64 (u1 : Int))]) ent128 rfl) (n_combine hB (digs_lm _) (by first | omega | simp) hA (digs_lm _) (by first | omega | simp) (by omega) (by omega)) ?_ RS.nil
       rintro vr100 w98 ⟨hr101, he99⟩
       refine rm he99 ?_
       try rw [val_digs] at hr101
       try rw [val_digs] at hr101
       replace hr101 := hr101.fr hE
       replace hE := hE.nx he99
       refine ra 14 rfl (fun _ => r_assign_as (v := vr96) rfl) ?_
       refine ra 15 rfl (fun _ => r_assign_as (v := vr100) rfl) ?_
       refine RA.done (by kernel_rfl) ?_
       replace hr97 := hr97.tr (Sm.ext he99)
       have hm102 := Ext.trans he89 (Ext.trans he95 he99)
       replace hx := ((hx.tr (Sm.ext (Ext.trans he63 he66))).tr (Sm.exc hx71 (fun _ _ _ _ hd => absurd hd.2 (Nat.not_lt_of_le ge_b65)))).tr (Sm.ext hm102)
       replace hy := ((hy.tr (Sm.ext (Ext.trans he63 he66))).tr (Sm.exc hx71 (fun _ _ _ _ hd => absurd hd.2 (Nat.not_lt_of_le ge_b65)))).tr (Sm.ext hm102)
       replace hr3 := ((hr3.tr (Sm.ext (Ext.trans he63 he66))).tr (Sm.exc hx71 (fun _ _ _ _ hd => absurd hd.2 (Nat.not_lt_of_le ge_b65)))).tr (Sm.ext hm102)
       replace hr7 := ((hr7.tr (Sm.ext (Ext.trans he63 he66))).tr (Sm.exc hx71 (fun _ _ _ _ hd => absurd hd.2 (Nat.not_lt_of_le ge_b65)))).tr (Sm.ext hm102)
       refine ⟨((a * u0 - b * v0), (b * v1 - a * u1), vr96, vr100), ⟨?_, ?_, ?_, ?_, ?_, ?_, ?_, ?_, ?_, ?_, ?_, ?_, ?_⟩, ?_⟩
       · exact (by repeat (first | exact hoff26 | refine Off.st ?_ (by decide) _ | refine Off.via hoff19 (by decide) ?_ | refine Off.eq hF10 ?_))
       · first | rfl | exact int_eq (by omega) | exact bool_eq (by simp)
       · first | rfl | exact int_eq (by omega) | exact bool_eq (by simp)
       · exact Nat.le_of_lt hf.2.2.2.1
       · exact hf.2.2.1.trans hg
       · exact Nat.le_trans (len_mono (Nat.le_trans hf.2.2.2.2 hba)) hla
       · exact hr97.mono (fun _ _ _ => trivial)
       · exact hr101.mono (fun _ _ _ => trivial)
       · exact hx
       · exact hy
       · exact hE
       · exact hr3
       · exact hr7
       · (try dsimp only)
         first | (rw [show modZ a b = a % b from if_neg hb0]; exact Nat.mod_lt _ (by omega)) | exact Nat.lt_of_lt_of_le hf.2.2.2.1 hf.2.2.2.2
      ·have hb87p := hb87
       have hf := (hfn hv0n).2 hb87
       rw [Nat.mul_comm u0, Nat.mul_comm v0, Nat.mul_comm v1, Nat.mul_comm u1] at hf
       refine wdraw mixed fun w103 he104 => ?_
       replace hE := hE.nx he104
       refine ra 0 rfl (fun _ => r_move_as (v := vb) hs28) ?_
       refine ra 1 rfl (fun _ => r_fieldAddr underlying138 rfl ty82 rfl) ?_
       replace hb67 := hb67.ext he104
       have hc105 := hb67.cell (j := 2) (u := (.int .u64 (v0 : Int))) rfl
       refine RA.rd 2 rfl (by kernel_rfl) rfl rfl rfl (by decide) (Ext.refl _) (fun u hu => r_load underlying82 ag82 rfl (cell_ext hu hc105)) ?_
       refine ra 3 rfl (fun _ => r_move_as (v := va) hs27) ?_
       refine ra 4 rfl (fun _ => r_fieldAddr underlying138 rfl ty82 rfl) ?_
       have hc106 := hb67.cell (j := 0) (u := (.int .u64 (u0 : Int))) rfl
       refine RA.rd 5 rfl (by kernel_rfl) rfl rfl rfl (by decide) (Ext.refl _) (fun u hu => r_load underlying82 ag82 rfl (cell_ext hu hc106)) ?_
       refine ra 7 rfl (fun _ => r_move_as (v := va) hs27) ?_
       refine ra 8 rfl (fun _ => r_fieldAddr underlying138 rfl ty82 rfl) ?_
       have hc107 := hb67.cell (j := 1) (u := (.int .u64 (u1 : Int))) rfl
       refine RA.rd 9 rfl (by kernel_rfl) rfl rfl rfl (by decide) (Ext.refl _) (fun u hu => r_load underlying82 ag82 rfl (cell_ext hu hc107)) ?_
       refine ra 10 rfl (fun _ => r_move_as (v := vb) hs28) ?_
       refine ra 11 rfl (fun _ => r_fieldAddr underlying138 rfl ty82 rfl) ?_
       have hc108 := hb67.cell (j := 3) (u := (.int .u64 (v1 : Int))) rfl
       refine RA.rd 12 rfl (by kernel_rfl) rfl rfl rfl (by decide) (Ext.refl _) (fun u hu => r_load underlying82 ag82 rfl (cell_ext hu hc108)) ?_
       refine RA.all [6] (by kernel_rfl) rfl ?_
       replace hB := ((hB.tr (Sm.ext (Ext.trans he63 he66))).apn hx71 nb_hx71).tr (Sm.ext he104)
       replace hA := ((hA.tr (Sm.ext (Ext.trans he63 he66))).apn hx71 nb_hx71).tr (Sm.ext he104)
       refine RS.call rfl rfl rfl (by decide) (r_call (vl := [vb, (.int .u64 (v0 : Int)), va, (.int .u64 (u0 : Int))]) ent128 rfl) (n_combine hB (digs_lm _) (by first | omega | simp) hA (digs_lm _) (by first | omega | simp) (by omega) (by omega)) ?_ RS.nil
       rintro vr111 w109 ⟨hr112, he110⟩
       refine rm he110 ?_
       try rw [val_digs] at hr112
       try rw [val_digs] at hr112
       replace hr112 := hr112.fr hE
       replace hE := hE.nx he110
       refine RA.all [13] (by kernel_rfl) rfl ?_
       replace hA := hA.tr (Sm.ext he110)
       replace hB := hB.tr (Sm.ext he110)
       refine RS.call rfl rfl rfl (by decide) (r_call (vl := [va, (.int .u64 (u1 : Int)), vb, (.int .u64 (v1 : Int))]) ent128 rfl) (n_combine hA (digs_lm _) (by first | omega | simp) hB (digs_lm _) (by first | omega | simp) (by omega) (by omega)) ?_ RS.nil
       rintro vr115 w113 ⟨hr116, he114⟩
       refine rm he114 ?_
       try rw [val_digs] at hr116
       try rw [val_digs] at hr116
       replace hr116 := hr116.fr hE
       replace hE := hE.nx he114
       refine ra 14 rfl (fun _ => r_assign_as (v := vr111) rfl) ?_
       refine ra 15 rfl (fun _ => r_assign_as (v := vr115) rfl) ?_
       refine RA.done (by kernel_rfl) ?_
       replace hr112 := hr112.tr (Sm.ext he114)
       have hm117 := Ext.trans he104 (Ext.trans he110 he114)
       replace hx := ((hx.tr (Sm.ext (Ext.trans he63 he66))).tr (Sm.exc hx71 (fun _ _ _ _ hd => absurd hd.2 (Nat.not_lt_of_le ge_b65)))).tr (Sm.ext hm117)
       replace hy := ((hy.tr (Sm.ext (Ext.trans he63 he66))).tr (Sm.exc hx71 (fun _ _ _ _ hd => absurd hd.2 (Nat.not_lt_of_le ge_b65)))).tr (Sm.ext hm117)
       replace hr3 := ((hr3.tr (Sm.ext (Ext.trans he63 he66))).tr (Sm.exc hx71 (fun _ _ _ _ hd => absurd hd.2 (Nat.not_lt_of_le ge_b65)))).tr (Sm.ext hm117)
       replace hr7 := ((hr7.tr (Sm.ext (Ext.trans he63 he66))).tr (Sm.exc hx71 (fun _ _ _ _ hd => absurd hd.2 (Nat.not_lt_of_le ge_b65)))).tr (Sm.ext hm117)
       refine ⟨((b * v0 - a * u0), (a * u1 - b * v1), vr111, vr115), ⟨?_, ?_, ?_, ?_, ?_, ?_, ?_, ?_, ?_, ?_, ?_, ?_, ?_⟩, ?_⟩
       · exact (by repeat (first | exact hoff26 | refine Off.st ?_ (by decide) _ | refine Off.via hoff19 (by decide) ?_ | refine Off.eq hF10 ?_))
       · first | rfl | exact int_eq (by omega) | exact bool_eq (by simp)
       · first | rfl | exact int_eq (by omega) | exact bool_eq (by simp)
       · exact Nat.le_of_lt hf.2.2.2.1
       · exact hf.2.2.1.trans hg
       · exact Nat.le_trans (len_mono (Nat.le_trans hf.2.2.2.2 hba)) hla
       · exact hr112.mono (fun _ _ _ => trivial)
       · exact hr116.mono (fun _ _ _ => trivial)
       · exact hx
       · exact hy
       · exact hE
       · exact hr3
       · exact hr7
       · (try dsimp only)
         first | (rw [show modZ a b = a % b from if_neg hb0]; exact Nat.mod_lt _ (by omega)) | exact Nat.lt_of_lt_of_le hf.2.2.2.1 hf.2.2.2.2
   ·have hb34p := of_decide_eq_false hb34
    have hb0 : b = 0 := len_zero.1 (by unfold len; omega)
    refine wexit ?_
    refine wsr (mV hs27 ?_)
    refine cL ent104 (n_trim hA (digs_lm _) (by first | omega | simp)) rfl ?_
    rintro vr120 w118 ⟨hr121, he119⟩
    try rw [val_digs] at hr121
    replace hr121 := hr121.fr hE
    replace hE := hE.nx he119
    refine aS (v := vr120) rfl (RL.nil ?_)
    refine wret ?_
    refine ⟨[vr120], ⟨rfl, trivial⟩, ?_⟩
    rw [hb0, Nat.gcd_zero_right] at hg
    rw [← hg]
    exact ⟨hr121, hE⟩
end Go.Proofs.YtffgajgibddfmaaGreat
namespace Go.Proofs.YtffgajgibddfmaaGreat
open Go.Vg Go.RowKit _root_.Go.Proofs.Tryz
set_option linter.unusedVariables false
open Go.Vm
theorem sgn_le {a b : Int} (h : Int.sign a < Int.sign b) : a < b := by
  rcases Int.lt_trichotomy a 0 with h1 | h1 | h1 <;> rcases Int.lt_trichotomy b 0 with h2 | h2 | h2 <;> simp [h1, h2, Int.sign_eq_neg_one_of_neg, Int.sign_eq_one_of_pos] at h <;> omega
theorem cmp_abs {a b : Int} (h1 : ¬ Int.sign a < Int.sign b) (h2 : ¬ Int.sign b < Int.sign a) : (Int.sign a < 0 → cmpI ((b.natAbs : Nat) : Int) ((a.natAbs : Nat) : Int) = cmpI a b) ∧ (¬ Int.sign a < 0 → cmpI ((a.natAbs : Nat) : Int) ((b.natAbs : Nat) : Int) = cmpI a b) := by
  have e : Int.sign a = Int.sign b := by omega
  rcases Int.lt_trichotomy a 0 with g1 | g1 | g1 <;> rcases Int.lt_trichotomy b 0 with g2 | g2 | g2 <;> simp [g1, g2, Int.sign_eq_neg_one_of_neg, Int.sign_eq_one_of_pos] at e ⊢ <;> (unfold cmpI; (repeat split) <;> omega)
set_option maxHeartbeats 1000000 in
theorem i_signed {w : World} {sx : Bool} {D : Nat → TypeId → Prop} {vx : Value} {n : Nat} (hx : Sg (gN .u32) D w vx (digs n)) {zx : Int} (ex : sg sx n = zx) :
    Calls Tryz.prog 110 #[(.bool sx), vx] w fun e w' => ∃ v, e = .returned v ∧ v = .agg #[.bool (decide (zx < 0)), vx] ∧ Ext w w' := by
 have hE : Below w.heap.size w w := Below.refl _ _
 refine calls_of (n := 13) (rs := [.cell 4 42]) func110 rfl rfl rfl (Nat.le_of_ble_eq_true rfl) ?_
 refine wset fun F0 hF0 => ?_
 refine wsr ?_
 refine rU (h_alloc (cs := [(.bool false), (.slice none 0 0)]) ty42 rfl) ?_
 rintro _ w1 ⟨b2, rfl, hs5, hb4, he3⟩
 have ge_b2 := hE.ge hs5
 replace hE := hE.nx he3
 refine RL.nil (wsr (mV (v := (.bool sx)) (hF0 0) (mV (v := (.bool sx)) rfl ?_)))
 rcases Bool.eq_false_or_eq_true (sx) with hb6 | hb6
 ·have hb6p := hb6
  have hsx : sx = true := hb6
  refine RL.gval rfl rfl (bool_eq hb6) rfl (by decide) (r_move_as (v := vx) (hF0 1)) ?_
  obtain ⟨A7, c8, hv9, hc10, hc11⟩ := hx.len
  refine RL.gval rfl rfl (bool_eq hb6) rfl (by decide) (r_len underlying40 hv9) ?_
  refine RL.gval rfl rfl (bool_eq hb6) rfl (by decide) (r_gtr (k := .i64) (a := (((digs n).length : Nat) : Int)) (b := 0) rfl rfl) ?_
  refine rV (r_pick_t (v := (.bool (decide (0 < (((digs n).length : Nat) : Int))))) (bool_eq hb6) rfl) (mV (v := vx) (hF0 1) (rV (r_build (vl := [(0, (.bool (decide (0 < (((digs n).length : Nat) : Int))))), (1, vx)]) (cs := [(.bool (decide (0 < (((digs n).length : Nat) : Int)))), vx]) underlying42 ty42 rfl (pl42 underlying42) (by obtain ⟨_, _, e0_, -, -⟩ := hx.len; simp only [e0_]; rfl)) ?_))
  refine RL.runs rfl rfl (h_store (vv := (.agg #[(.bool (decide (0 < (((digs n).length : Nat) : Int)))), vx])) (cs := [(.bool (decide (0 < (((digs n).length : Nat) : Int)))), vx]) (o := 0) ty42 rfl rfl rfl rfl (one_cons rfl (one_cons hx.one one_nil)) hb4 (Nat.le_of_ble_eq_true rfl)) ?_
  rintro w12 ⟨hn13, hx14, hz15⟩
  replace hE := hE.nb hx14 ge_b2
  have nb_hx14 := (Nb.of hb4 (nu_cons rfl (nu_cons rfl nu_nil)))
  replace hb4 : Bk w12 b2 42 [(.bool (decide (0 < (((digs n).length : Nat) : Int)))), vx] := hn13
  refine RL.nil ?_
  refine wret ?_
  refine ⟨[(.agg #[(.bool (decide (0 < (((digs n).length : Nat) : Int)))), vx])], ⟨⟨_, _, [(.bool (decide (0 < (((digs n).length : Nat) : Int)))), vx], rfl, ⟨_, underlying42⟩, hb4.cells rfl, .inl ⟨ag42, ⟨_, _, ty42⟩, rfl⟩⟩, trivial⟩, ?_⟩
  exact ⟨agg2 (mk_t ex hsx), hE⟩
 ·have hb6p := hb6
  have hsx : sx = false := hb6
  refine RL.gno rfl rfl (bool_eq hb6) rfl (by decide) ?_
  refine RL.gno rfl rfl (bool_eq hb6) rfl (by decide) ?_
  refine RL.gno rfl rfl (bool_eq hb6) rfl (by decide) ?_
  refine rV (r_pick_f (v := (.bool false)) (bool_eq hb6) rfl) (mV (v := vx) (hF0 1) (rV (r_build (vl := [(0, (.bool false)), (1, vx)]) (cs := [(.bool false), vx]) underlying42 ty42 rfl (pl42 underlying42) (by obtain ⟨_, _, e0_, -, -⟩ := hx.len; simp only [e0_]; rfl)) ?_))
  refine RL.runs rfl rfl (h_store (vv := (.agg #[(.bool false), vx])) (cs := [(.bool false), vx]) (o := 0) ty42 rfl rfl rfl rfl (one_cons rfl (one_cons hx.one one_nil)) hb4 (Nat.le_of_ble_eq_true rfl)) ?_
  rintro w16 ⟨hn17, hx18, hz19⟩
  replace hE := hE.nb hx18 ge_b2
  have nb_hx18 := (Nb.of hb4 (nu_cons rfl (nu_cons rfl nu_nil)))
  replace hb4 : Bk w16 b2 42 [(.bool false), vx] := hn17
  refine RL.nil ?_
  refine wret ?_
  refine ⟨[(.agg #[(.bool false), vx])], ⟨⟨_, _, [(.bool false), vx], rfl, ⟨_, underlying42⟩, hb4.cells rfl, .inl ⟨ag42, ⟨_, _, ty42⟩, rfl⟩⟩, trivial⟩, ?_⟩
  exact ⟨agg2 (mk_f ex hsx), hE⟩
set_option maxHeartbeats 1000000 in
theorem i_norm {w : World} {sx : Bool} {Dx : Nat → TypeId → Prop} {vx : Value} {x : List Nat} (hx : Sg (gN .u32) Dx w vx x) (lmx : Lm x) (lnx : x.length ≤ 274877906944) {zx : Int} (ex : sg sx (val x) = zx) :
    Calls Tryz.prog 103 #[(.agg #[(.bool sx), vx])] w fun e w' => ∃ v, e = .returned v ∧ (∃ vr, v = .agg #[.bool (decide (zx < 0)), vr] ∧ Sg (gN .u32) (fun b T => w.heap.size ≤ b ∧ T = 96) w' vr (digs zx.natAbs) ∧ (digs zx.natAbs).length ≤ x.length) ∧ Ext w w' := by
 have hE : Below w.heap.size w w := Below.refl _ _
 have hlzx := il_le lmx ex
 refine calls_of (n := 9) (rs := [.cell 2 42]) func103 rfl rfl rfl (Nat.le_of_ble_eq_true rfl) ?_
 refine wset fun F0 hF0 => ?_
 refine wsr ?_
 refine rU (h_box (vv := (.agg #[(.bool sx), vx])) (cs := [(.bool sx), vx]) (hF0 0) rfl) ?_
 rintro _ w1 ⟨b2, rfl, hs5, hb4, he3⟩
 have ge_b2 := hE.ge hs5
 replace hE := hE.nx he3
 refine rU (h_alloc (cs := [(.bool false), (.slice none 0 0)]) ty42 rfl) ?_
 rintro _ w6 ⟨b7, rfl, hs10, hb9, he8⟩
 have lt_b2_b7 := Nat.lt_of_lt_of_eq hb4.lt hs10.symm
 have ge_b7 := hE.ge hs10
 replace hE := hE.nx he8
 refine RL.nil (wseq ?_)
 refine wdraw mixed fun w11 he12 => ?_
 replace hE := hE.nx he12
 refine ra 0 rfl (fun _ => r_fieldAddr underlying42 rfl ty4 rfl) ?_
 replace hb4 := hb4.ext (Ext.trans he8 he12)
 have hc13 := hb4.cell (j := 0) (u := (.bool sx)) rfl
 refine RA.rd 1 rfl (by kernel_rfl) rfl rfl rfl (by decide) (Ext.refl _) (fun u hu => r_load underlying4 ag4 rfl (cell_ext hu hc13)) ?_
 refine ra 2 rfl (fun _ => r_fieldAddr underlying42 rfl ty40 rfl) ?_
 have hc14 := hb4.cell (j := 1) (u := vx) rfl
 refine RA.rd 3 rfl (by kernel_rfl) rfl rfl rfl (by decide) (Ext.refl _) (fun u hu => r_load underlying40 ag40 rfl (cell_ext hu hc14)) ?_
 refine RA.all [4] (by kernel_rfl) rfl ?_
 have hm19 := Ext.trans he3 (Ext.trans he8 he12)
 replace hx := hx.tr (Sm.ext hm19)
 refine RS.call rfl rfl rfl (by decide) (r_call (vl := [vx]) ent104 rfl) (n_trim hx (by assumption) (by first | omega | simp)) ?_ RS.nil
 rintro vr17 w15 ⟨hr18, he16⟩
 refine rm he16 ?_
 replace hr18 := hr18.fr hE
 replace hE := hE.nx he16
 have hlt20 : (digs (val x)).length ≤ x.length := len_le_of (by assumption)
 refine RA.all [5] (by kernel_rfl) rfl ?_
 refine RS.call rfl rfl rfl (by decide) (r_call (vl := [(.bool sx), vr17]) ent110 rfl) (i_signed (n := (val x)) hr18 (show sg sx (val x) = zx from ex)) ?_ RS.nil
 rintro _ w21 ⟨rfl, he22⟩
 refine rm he22 ?_
 replace hE := hE.nx he22
 have hq23 := mk_abs (show sg sx (val x) = zx from ex)
 have hlv24 : (digs zx.natAbs).length = (digs (val x)).length := by rw [hq23]
 replace hr18 := hr18.tr (Sm.ext he22)
 rw [hq23] at hr18
 refine RA.all [6] (by kernel_rfl) rfl ?_
 have hm29 := Ext.trans he12 (Ext.trans he16 he22)
 replace hb9 := hb9.ext hm29
 refine RS.runs rfl rfl rfl (h_store (vv := (.agg #[(.bool (decide (zx < 0))), vr17])) (cs := [(.bool (decide (zx < 0))), vr17]) (o := 0) ty42 rfl rfl rfl rfl (one_cons rfl (one_cons hr18.one one_nil)) hb9 (Nat.le_of_ble_eq_true rfl)) ?_ RS.nil
 rintro w25 ⟨hn26, hx27, hz28⟩
 refine ⟨.inr (.inl (by kernel_rfl)), ?_⟩
 replace hE := hE.nb hx27 ge_b7
 have nb_hx27 := (Nb.of hb9 (nu_cons rfl (nu_cons rfl nu_nil)))
 replace hb9 : Bk w25 b7 42 [(.bool (decide (zx < 0))), vr17] := hn26
 refine RA.done (by kernel_rfl) ?_
 refine wret ?_
 refine ⟨[(.agg #[(.bool (decide (zx < 0))), vr17])], ⟨⟨_, _, [(.bool (decide (zx < 0))), vr17], rfl, ⟨_, underlying42⟩, hb9.cells rfl, .inl ⟨ag42, ⟨_, _, ty42⟩, rfl⟩⟩, trivial⟩, ?_⟩
 replace hr18 := hr18.apn hx27 nb_hx27
 exact ⟨⟨_, rfl, hr18, (by omega)⟩, hE⟩
set_option maxHeartbeats 1000000 in
theorem i_add {w : World} {sx : Bool} {Dx : Nat → TypeId → Prop} {vx : Value} {x : List Nat} (hx : Sg (gN .u32) Dx w vx x) (lmx : Lm x) (lnx : x.length ≤ 274877906944) {zx : Int} (ex : sg sx (val x) = zx) {sy : Bool} {Dy : Nat → TypeId → Prop} {vy : Value} {y : List Nat} (hy : Sg (gN .u32) Dy w vy y) (lmy : Lm y) (lny : y.length ≤ 274877906944) {zy : Int} (ey : sg sy (val y) = zy) :
    Calls Tryz.prog 78 #[(.agg #[(.bool sx), vx]), (.agg #[(.bool sy), vy])] w fun e w' => ∃ v, e = .returned v ∧ (∃ vr, v = .agg #[.bool (decide ((zx + zy) < 0)), vr] ∧ Sg (gN .u32) (fun b T => w.heap.size ≤ b ∧ T = 96) w' vr (digs (zx + zy).natAbs) ∧ (digs (zx + zy).natAbs).length ≤ max x.length y.length + 1) ∧ Ext w w' := by
 have hE : Below w.heap.size w w := Below.refl _ _
 have hlzx := il_le lmx ex
 have hlzy := il_le lmy ey
 refine calls_of (n := 47) (rs := [.cell 4 42]) func78 rfl rfl rfl (Nat.le_of_ble_eq_true rfl) ?_
 refine wset fun F0 hF0 => ?_
 refine wsr ?_
 refine rU (h_box (vv := (.agg #[(.bool sx), vx])) (cs := [(.bool sx), vx]) (hF0 0) rfl) ?_
 rintro _ w1 ⟨b2, rfl, hs5, hb4, he3⟩
 have ge_b2 := hE.ge hs5
 replace hE := hE.nx he3
 refine rU (h_box (vv := (.agg #[(.bool sy), vy])) (cs := [(.bool sy), vy]) (hF0 1) rfl) ?_
 rintro _ w6 ⟨b7, rfl, hs10, hb9, he8⟩
 have lt_b2_b7 := Nat.lt_of_lt_of_eq hb4.lt hs10.symm
 have ge_b7 := hE.ge hs10
 replace hE := hE.nx he8
 refine rU (h_alloc (cs := [(.bool false), (.slice none 0 0)]) ty42 rfl) ?_
 rintro _ w11 ⟨b12, rfl, hs15, hb14, he13⟩
 have lt_b7_b12 := Nat.lt_of_lt_of_eq hb9.lt hs15.symm
 have ge_b12 := hE.ge hs15
 replace hE := hE.nx he13
 refine RL.nil (wseq (wsr (rV (r_fieldAddr underlying42 rfl ty4 rfl) ?_)))
 replace hb4 := hb4.ext (Ext.trans he8 he13)
 have hc16 := hb4.cell (j := 0) (u := (.bool sx)) rfl
 refine rV (r_load underlying4 ag4 rfl hc16) (rV (r_fieldAddr underlying42 rfl ty4 rfl) ?_)
 replace hb9 := hb9.ext he13
 have hc17 := hb9.cell (j := 0) (u := (.bool sy)) rfl
 refine rV (r_load underlying4 ag4 rfl hc17) (rV (r_eqlb underlying4 rfl rfl) (RL.nil ?_))
 refine wcond (b := sx == sy) rfl (fun hb18 => ?_) (fun hb18 => ?_)
 ·have hb18p := hb18
  have hs : sx = sy := by simpa using hb18
  refine wseq ?_
  refine wdraw mixed fun w19 he20 => ?_
  replace hE := hE.nx he20
  refine ra 0 rfl (fun _ => r_fieldAddr underlying42 rfl ty4 rfl) ?_
  replace hb4 := hb4.ext he20
  have hc21 := hb4.cell (j := 0) (u := (.bool sx)) rfl
  refine RA.rd 1 rfl (by kernel_rfl) rfl rfl rfl (by decide) (Ext.refl _) (fun u hu => r_load underlying4 ag4 rfl (cell_ext hu hc21)) ?_
  refine ra 2 rfl (fun _ => r_fieldAddr underlying42 rfl ty40 rfl) ?_
  have hc22 := hb4.cell (j := 1) (u := vx) rfl
  refine RA.rd 3 rfl (by kernel_rfl) rfl rfl rfl (by decide) (Ext.refl _) (fun u hu => r_load underlying40 ag40 rfl (cell_ext hu hc22)) ?_
  refine ra 4 rfl (fun _ => r_fieldAddr underlying42 rfl ty40 rfl) ?_
  replace hb9 := hb9.ext he20
  have hc23 := hb9.cell (j := 1) (u := vy) rfl
  refine RA.rd 5 rfl (by kernel_rfl) rfl rfl rfl (by decide) (Ext.refl _) (fun u hu => r_load underlying40 ag40 rfl (cell_ext hu hc23)) ?_
  refine RA.all [6] (by kernel_rfl) rfl ?_
  have hm28 := Ext.trans he3 (Ext.trans he8 (Ext.trans he13 he20))
  replace hx := hx.tr (Sm.ext hm28)
  replace hy := hy.tr (Sm.ext hm28)
  refine RS.call rfl rfl rfl (by decide) (r_call (vl := [vx, vy]) ent113 rfl) (n_add hx (by assumption) (by first | omega | simp) hy (by assumption) (by first | omega | simp)) ?_ RS.nil
  rintro vr26 w24 ⟨hr27, he25⟩
  refine rm he25 ?_
  replace hr27 := hr27.fr hE
  replace hE := hE.nx he25
  have hlv29 := dl_val (x := x) (by assumption)
  have hlv30 := dl_val (x := y) (by assumption)
  have hlv31 := dl_add (val x) (val y)
  refine RA.all [7] (by kernel_rfl) rfl ?_
  refine RS.call rfl rfl rfl (by decide) (r_call (vl := [(.bool sx), vr26]) ent110 rfl) (i_signed (n := ((val x) + (val y))) hr27 (show sg sx ((val x) + (val y)) = zx + zy from (by rw [sg_add, ex, hs, ey]))) ?_ RS.nil
  rintro _ w32 ⟨rfl, he33⟩
  refine rm he33 ?_
  replace hE := hE.nx he33
  have hq34 := mk_abs (show sg sx ((val x) + (val y)) = zx + zy from (by rw [sg_add, ex, hs, ey]))
  have hlv35 : (digs (zx + zy).natAbs).length = (digs ((val x) + (val y))).length := by rw [hq34]
  replace hr27 := hr27.tr (Sm.ext he33)
  rw [hq34] at hr27
  refine RA.all [8] (by kernel_rfl) rfl ?_
  have hm40 := Ext.trans he20 (Ext.trans he25 he33)
  replace hb14 := hb14.ext hm40
  refine RS.runs rfl rfl rfl (h_store (vv := (.agg #[(.bool (decide ((zx + zy) < 0))), vr26])) (cs := [(.bool (decide ((zx + zy) < 0))), vr26]) (o := 0) ty42 rfl rfl rfl rfl (one_cons rfl (one_cons hr27.one one_nil)) hb14 (Nat.le_of_ble_eq_true rfl)) ?_ RS.nil
  rintro w36 ⟨hn37, hx38, hz39⟩
  refine ⟨.inr (.inl (by kernel_rfl)), ?_⟩
  replace hE := hE.nb hx38 ge_b12
  have nb_hx38 := (Nb.of hb14 (nu_cons rfl (nu_cons rfl nu_nil)))
  replace hb14 : Bk w36 b12 42 [(.bool (decide ((zx + zy) < 0))), vr26] := hn37
  refine RA.done (by kernel_rfl) ?_
  refine wret ?_
  refine ⟨[(.agg #[(.bool (decide ((zx + zy) < 0))), vr26])], ⟨⟨_, _, [(.bool (decide ((zx + zy) < 0))), vr26], rfl, ⟨_, underlying42⟩, hb14.cells rfl, .inl ⟨ag42, ⟨_, _, ty42⟩, rfl⟩⟩, trivial⟩, ?_⟩
  replace hr27 := hr27.apn hx38 nb_hx38
  exact ⟨⟨_, rfl, hr27, (by omega)⟩, hE⟩
 ·have hb18p := hb18
  have hs : sx ≠ sy := by simpa using hb18
  refine wskip ?_
  refine wseq (wsr (rV (r_fieldAddr underlying42 rfl ty40 rfl) ?_))
  have hc41 := hb4.cell (j := 1) (u := vx) rfl
  refine rV (r_load underlying40 ag40 rfl hc41) (rV (r_fieldAddr underlying42 rfl ty40 rfl) ?_)
  have hc42 := hb9.cell (j := 1) (u := vy) rfl
  refine rV (r_load underlying40 ag40 rfl hc42) ?_
  have hm49 := Ext.trans he3 (Ext.trans he8 he13)
  replace hx := hx.tr (Sm.ext hm49)
  replace hy := hy.tr (Sm.ext hm49)
  refine cL ent114 (n_sub hx (by assumption) (by first | omega | simp) hy (by assumption) (by first | omega | simp)) rfl ?_
  rintro vq47 w43 ⟨⟨vr45, hq48, hr46⟩, he44⟩
  have hlv50 := dl_val (x := x) (by assumption)
  have hlv51 := dl_val (x := y) (by assumption)
  have hlv52 := dl_sub (val x) (val y)
  subst hq48
  replace hr46 := hr46.fr hE
  replace hE := hE.nx he44
  refine mV (v := (.tuple #[vr45, (.bool (decide ((val y) ≤ (val x))))])) rfl (rV (r_extract (v := vr45) rfl rfl) (rV (r_extract (v := (.bool (decide ((val y) ≤ (val x))))) rfl rfl) (aS (v := vr45) rfl (aS (v := (.bool (decide ((val y) ≤ (val x))))) rfl (RL.nil (wsr (mV (v := (.bool (decide ((val y) ≤ (val x))))) rfl (RL.nil ?_))))))))
  refine wcond (b := decide ((val y) ≤ (val x))) rfl (fun hb53 => ?_) (fun hb53 => ?_)
  ·have hb53p := of_decide_eq_true hb53
   have hle : val y ≤ val x := hb53p
   refine wsr (rV (r_fieldAddr underlying42 rfl ty4 rfl) ?_)
   replace hb4 := hb4.ext he44
   have hc54 := hb4.cell (j := 0) (u := (.bool sx)) rfl
   refine rV (r_load underlying4 ag4 rfl hc54) (mV (v := vr45) rfl ?_)
   refine cL ent110 (i_signed (n := ((val x) - (val y))) hr46 (show sg sx ((val x) - (val y)) = zx + zy from (by exact isub_a ex ey hs hle))) rfl ?_
   rintro _ w55 ⟨rfl, he56⟩
   replace hE := hE.nx he56
   have hq57 := mk_abs (show sg sx ((val x) - (val y)) = zx + zy from (by exact isub_a ex ey hs hle))
   have hlv58 : (digs (zx + zy).natAbs).length = (digs ((val x) - (val y))).length := by rw [hq57]
   replace hr46 := hr46.tr (Sm.ext he56)
   rw [hq57] at hr46
   replace hb14 := hb14.ext (Ext.trans he44 he56)
   refine RL.runs rfl rfl (h_store (vv := (.agg #[(.bool (decide ((zx + zy) < 0))), vr45])) (cs := [(.bool (decide ((zx + zy) < 0))), vr45]) (o := 0) ty42 rfl rfl rfl rfl (one_cons rfl (one_cons hr46.one one_nil)) hb14 (Nat.le_of_ble_eq_true rfl)) ?_
   rintro w59 ⟨hn60, hx61, hz62⟩
   replace hE := hE.nb hx61 ge_b12
   have nb_hx61 := (Nb.of hb14 (nu_cons rfl (nu_cons rfl nu_nil)))
   replace hb14 : Bk w59 b12 42 [(.bool (decide ((zx + zy) < 0))), vr45] := hn60
   refine RL.nil ?_
   refine wret ?_
   refine ⟨[(.agg #[(.bool (decide ((zx + zy) < 0))), vr45])], ⟨⟨_, _, [(.bool (decide ((zx + zy) < 0))), vr45], rfl, ⟨_, underlying42⟩, hb14.cells rfl, .inl ⟨ag42, ⟨_, _, ty42⟩, rfl⟩⟩, trivial⟩, ?_⟩
   replace hr46 := hr46.apn hx61 nb_hx61
   exact ⟨⟨_, rfl, hr46, (by omega)⟩, hE⟩
  ·have hb53p := of_decide_eq_false hb53
   have hle : ¬ val y ≤ val x := hb53p
   refine wskip ?_
   refine wsr (rV (r_fieldAddr underlying42 rfl ty40 rfl) ?_)
   replace hb9 := hb9.ext he44
   have hc63 := hb9.cell (j := 1) (u := vy) rfl
   refine rV (r_load underlying40 ag40 rfl hc63) (rV (r_fieldAddr underlying42 rfl ty40 rfl) ?_)
   replace hb4 := hb4.ext he44
   have hc64 := hb4.cell (j := 1) (u := vx) rfl
   refine rV (r_load underlying40 ag40 rfl hc64) ?_
   replace hy := hy.tr (Sm.ext he44)
   replace hx := hx.tr (Sm.ext he44)
   refine cL ent114 (n_sub hy (by assumption) (by first | omega | simp) hx (by assumption) (by first | omega | simp)) rfl ?_
   rintro vq69 w65 ⟨⟨vr67, hq70, hr68⟩, he66⟩
   have hlv71 := dl_val (x := y) (by assumption)
   have hlv72 := dl_val (x := x) (by assumption)
   have hlv73 := dl_sub (val y) (val x)
   subst hq70
   replace hr68 := hr68.fr hE
   replace hE := hE.nx he66
   refine mV (v := (.tuple #[vr67, (.bool (decide ((val x) ≤ (val y))))])) rfl (rV (r_extract (v := vr67) rfl rfl) (rV (r_extract (v := (.bool (decide ((val x) ≤ (val y))))) rfl rfl) (aS (v := vr67) rfl (aS (v := (.bool (decide ((val x) ≤ (val y))))) rfl (RL.nil (wsr (rV (r_fieldAddr underlying42 rfl ty4 rfl) ?_)))))))
   replace hb9 := hb9.ext he66
   have hc74 := hb9.cell (j := 0) (u := (.bool sy)) rfl
   refine rV (r_load underlying4 ag4 rfl hc74) (mV (v := vr67) rfl ?_)
   refine cL ent110 (i_signed (n := ((val y) - (val x))) hr68 (show sg sy ((val y) - (val x)) = zx + zy from (by exact isub_b ex ey hs hle))) rfl ?_
   rintro _ w75 ⟨rfl, he76⟩
   replace hE := hE.nx he76
   have hq77 := mk_abs (show sg sy ((val y) - (val x)) = zx + zy from (by exact isub_b ex ey hs hle))
   have hlv78 : (digs (zx + zy).natAbs).length = (digs ((val y) - (val x))).length := by rw [hq77]
   replace hr68 := hr68.tr (Sm.ext he76)
   rw [hq77] at hr68
   have hm83 := Ext.trans he44 (Ext.trans he66 he76)
   replace hb14 := hb14.ext hm83
   refine RL.runs rfl rfl (h_store (vv := (.agg #[(.bool (decide ((zx + zy) < 0))), vr67])) (cs := [(.bool (decide ((zx + zy) < 0))), vr67]) (o := 0) ty42 rfl rfl rfl rfl (one_cons rfl (one_cons hr68.one one_nil)) hb14 (Nat.le_of_ble_eq_true rfl)) ?_
   rintro w79 ⟨hn80, hx81, hz82⟩
   replace hE := hE.nb hx81 ge_b12
   have nb_hx81 := (Nb.of hb14 (nu_cons rfl (nu_cons rfl nu_nil)))
   replace hb14 : Bk w79 b12 42 [(.bool (decide ((zx + zy) < 0))), vr67] := hn80
   refine RL.nil ?_
   refine wret ?_
   refine ⟨[(.agg #[(.bool (decide ((zx + zy) < 0))), vr67])], ⟨⟨_, _, [(.bool (decide ((zx + zy) < 0))), vr67], rfl, ⟨_, underlying42⟩, hb14.cells rfl, .inl ⟨ag42, ⟨_, _, ty42⟩, rfl⟩⟩, trivial⟩, ?_⟩
   replace hr68 := hr68.apn hx81 nb_hx81
   exact ⟨⟨_, rfl, hr68, (by omega)⟩, hE⟩
set_option maxHeartbeats 1000000 in
theorem i_mul {w : World} {sx : Bool} {Dx : Nat → TypeId → Prop} {vx : Value} {x : List Nat} (hx : Sg (gN .u32) Dx w vx x) (lmx : Lm x) (lnx : x.length ≤ 274877906944) {zx : Int} (ex : sg sx (val x) = zx) {sy : Bool} {Dy : Nat → TypeId → Prop} {vy : Value} {y : List Nat} (hy : Sg (gN .u32) Dy w vy y) (lmy : Lm y) (lny : y.length ≤ 274877906944) {zy : Int} (ey : sg sy (val y) = zy) :
    Calls Tryz.prog 79 #[(.agg #[(.bool sx), vx]), (.agg #[(.bool sy), vy])] w fun e w' => ∃ v, e = .returned v ∧ (∃ vr, v = .agg #[.bool (decide ((zx * zy) < 0)), vr] ∧ Sg (gN .u32) (fun b T => w.heap.size ≤ b ∧ T = 96) w' vr (digs (zx * zy).natAbs) ∧ (digs (zx * zy).natAbs).length ≤ x.length + y.length) ∧ Ext w w' := by
 have hE : Below w.heap.size w w := Below.refl _ _
 have hlzx := il_le lmx ex
 have hlzy := il_le lmy ey
 refine calls_of (n := 16) (rs := [.cell 4 42]) func79 rfl rfl rfl (Nat.le_of_ble_eq_true rfl) ?_
 refine wset fun F0 hF0 => ?_
 refine wsr ?_
 refine rU (h_box (vv := (.agg #[(.bool sx), vx])) (cs := [(.bool sx), vx]) (hF0 0) rfl) ?_
 rintro _ w1 ⟨b2, rfl, hs5, hb4, he3⟩
 have ge_b2 := hE.ge hs5
 replace hE := hE.nx he3
 refine rU (h_box (vv := (.agg #[(.bool sy), vy])) (cs := [(.bool sy), vy]) (hF0 1) rfl) ?_
 rintro _ w6 ⟨b7, rfl, hs10, hb9, he8⟩
 have lt_b2_b7 := Nat.lt_of_lt_of_eq hb4.lt hs10.symm
 have ge_b7 := hE.ge hs10
 replace hE := hE.nx he8
 refine rU (h_alloc (cs := [(.bool false), (.slice none 0 0)]) ty42 rfl) ?_
 rintro _ w11 ⟨b12, rfl, hs15, hb14, he13⟩
 have lt_b7_b12 := Nat.lt_of_lt_of_eq hb9.lt hs15.symm
 have ge_b12 := hE.ge hs15
 replace hE := hE.nx he13
 refine RL.nil (wseq ?_)
 refine wdraw mixed fun w16 he17 => ?_
 replace hE := hE.nx he17
 refine ra 0 rfl (fun _ => r_fieldAddr underlying42 rfl ty4 rfl) ?_
 have hm19 := Ext.trans he8 (Ext.trans he13 he17)
 replace hb4 := hb4.ext hm19
 have hc18 := hb4.cell (j := 0) (u := (.bool sx)) rfl
 refine RA.rd 1 rfl (by kernel_rfl) rfl rfl rfl (by decide) (Ext.refl _) (fun u hu => r_load underlying4 ag4 rfl (cell_ext hu hc18)) ?_
 refine ra 2 rfl (fun _ => r_fieldAddr underlying42 rfl ty4 rfl) ?_
 replace hb9 := hb9.ext (Ext.trans he13 he17)
 have hc20 := hb9.cell (j := 0) (u := (.bool sy)) rfl
 refine RA.rd 3 rfl (by kernel_rfl) rfl rfl rfl (by decide) (Ext.refl _) (fun u hu => r_load underlying4 ag4 rfl (cell_ext hu hc20)) ?_
 refine ra 4 rfl (fun _ => r_neqb underlying4 rfl rfl) ?_
 refine ra 5 rfl (fun _ => r_fieldAddr underlying42 rfl ty40 rfl) ?_
 have hc21 := hb4.cell (j := 1) (u := vx) rfl
 refine RA.rd 6 rfl (by kernel_rfl) rfl rfl rfl (by decide) (Ext.refl _) (fun u hu => r_load underlying40 ag40 rfl (cell_ext hu hc21)) ?_
 refine ra 7 rfl (fun _ => r_fieldAddr underlying42 rfl ty40 rfl) ?_
 have hc22 := hb9.cell (j := 1) (u := vy) rfl
 refine RA.rd 8 rfl (by kernel_rfl) rfl rfl rfl (by decide) (Ext.refl _) (fun u hu => r_load underlying40 ag40 rfl (cell_ext hu hc22)) ?_
 refine RA.all [9] (by kernel_rfl) rfl ?_
 have hm27 := Ext.trans he3 (Ext.trans he8 (Ext.trans he13 he17))
 replace hx := hx.tr (Sm.ext hm27)
 replace hy := hy.tr (Sm.ext hm27)
 refine RS.call rfl rfl rfl (by decide) (r_call (vl := [vx, vy]) ent80 rfl) (n_mul hx (by assumption) (by first | omega | simp) hy (by assumption) (by first | omega | simp)) ?_ RS.nil
 rintro vr25 w23 ⟨hr26, he24⟩
 refine rm he24 ?_
 replace hr26 := hr26.fr hE
 replace hE := hE.nx he24
 have hlv28 := dl_val (x := x) (by assumption)
 have hlv29 := dl_val (x := y) (by assumption)
 have hlv30 := dl_mul (val x) (val y)
 refine RA.all [10] (by kernel_rfl) rfl ?_
 refine RS.call rfl rfl rfl (by decide) (r_call (vl := [(.bool (sx != sy)), vr25]) ent110 rfl) (i_signed (n := ((val x) * (val y))) hr26 (show sg (sx != sy) ((val x) * (val y)) = zx * zy from (by rw [sg_mul, ex, ey]))) ?_ RS.nil
 rintro _ w31 ⟨rfl, he32⟩
 refine rm he32 ?_
 replace hE := hE.nx he32
 have hq33 := mk_abs (show sg (sx != sy) ((val x) * (val y)) = zx * zy from (by rw [sg_mul, ex, ey]))
 have hlv34 : (digs (zx * zy).natAbs).length = (digs ((val x) * (val y))).length := by rw [hq33]
 replace hr26 := hr26.tr (Sm.ext he32)
 rw [hq33] at hr26
 refine RA.all [11] (by kernel_rfl) rfl ?_
 have hm39 := Ext.trans he17 (Ext.trans he24 he32)
 replace hb14 := hb14.ext hm39
 refine RS.runs rfl rfl rfl (h_store (vv := (.agg #[(.bool (decide ((zx * zy) < 0))), vr25])) (cs := [(.bool (decide ((zx * zy) < 0))), vr25]) (o := 0) ty42 rfl rfl rfl rfl (one_cons rfl (one_cons hr26.one one_nil)) hb14 (Nat.le_of_ble_eq_true rfl)) ?_ RS.nil
 rintro w35 ⟨hn36, hx37, hz38⟩
 refine ⟨.inr (.inl (by kernel_rfl)), ?_⟩
 replace hE := hE.nb hx37 ge_b12
 have nb_hx37 := (Nb.of hb14 (nu_cons rfl (nu_cons rfl nu_nil)))
 replace hb14 : Bk w35 b12 42 [(.bool (decide ((zx * zy) < 0))), vr25] := hn36
 refine RA.done (by kernel_rfl) ?_
 refine wret ?_
 refine ⟨[(.agg #[(.bool (decide ((zx * zy) < 0))), vr25])], ⟨⟨_, _, [(.bool (decide ((zx * zy) < 0))), vr25], rfl, ⟨_, underlying42⟩, hb14.cells rfl, .inl ⟨ag42, ⟨_, _, ty42⟩, rfl⟩⟩, trivial⟩, ?_⟩
 replace hr26 := hr26.apn hx37 nb_hx37
 exact ⟨⟨_, rfl, hr26, (by omega)⟩, hE⟩
set_option maxHeartbeats 1000000 in
theorem i_from {w : World} {k : Int} (hk : -9223372036854775808 ≤ k ∧ k ≤ 9223372036854775807) :
    Calls Tryz.prog 74 #[(.int .i64 (k))] w fun e w' => ∃ v, e = .returned v ∧ (∃ vr, v = .agg #[.bool (decide (k < 0)), vr] ∧ Sg (gN .u32) (fun b T => w.heap.size ≤ b ∧ T = 96) w' vr (digs k.natAbs) ∧ (digs k.natAbs).length ≤ 2) ∧ Ext w w' := by
 have hE : Below w.heap.size w w := Below.refl _ _
 refine calls_of (n := 14) (rs := [.cell 2 42]) func74 rfl rfl rfl (Nat.le_of_ble_eq_true rfl) ?_
 refine wset fun F0 hF0 => ?_
 refine wsr ?_
 refine rU (h_alloc (cs := [(.bool false), (.slice none 0 0)]) ty42 rfl) ?_
 rintro _ w1 ⟨b2, rfl, hs5, hb4, he3⟩
 have ge_b2 := hE.ge hs5
 replace hE := hE.nx he3
 refine RL.nil (wseq (wsr (mV (v := (.int .i64 (k))) (hF0 0) (rV (r_lss (k := .i64) (a := k) (b := 0) rfl rfl) (RL.nil ?_)))))
 refine wcond (b := decide (k < 0)) rfl (fun hb6 => ?_) (fun hb6 => ?_)
 ·have hb6p := of_decide_eq_true hb6
  refine wsr (mV (v := (.int .i64 (k))) (hF0 0) (rV (r_conv (k := .u64) (a := k) (c := k + 18446744073709551616) underlying3 underlying82 rfl (by rw [wu64m]; omega)) (rV (r_neg (k := .u64) (a := k + 18446744073709551616) (c := (((-k).toNat : Nat) : Int)) rfl (by rw [wu64m]; omega)) ?_)))
  refine cL ent102 (n_from (by omega)) rfl ?_
  rintro vr9 w7 ⟨hr10, he8⟩
  replace hr10 := hr10.fr hE
  replace hE := hE.nx he8
  have hlv11 := dl_u64 (n := (-k).toNat) (by omega)
  refine cL ent110 (i_signed (n := ((-k).toNat)) hr10 (show sg true ((-k).toNat) = k from (by rw [sg_t]; omega))) rfl ?_
  rintro _ w12 ⟨rfl, he13⟩
  replace hE := hE.nx he13
  have hq14 := mk_abs (show sg true ((-k).toNat) = k from (by rw [sg_t]; omega))
  have hlv15 : (digs k.natAbs).length = (digs ((-k).toNat)).length := by rw [hq14]
  replace hr10 := hr10.tr (Sm.ext he13)
  rw [hq14] at hr10
  replace hb4 := hb4.ext (Ext.trans he8 he13)
  refine RL.runs rfl rfl (h_store (vv := (.agg #[(.bool (decide (k < 0))), vr9])) (cs := [(.bool (decide (k < 0))), vr9]) (o := 0) ty42 rfl rfl rfl rfl (one_cons rfl (one_cons hr10.one one_nil)) hb4 (Nat.le_of_ble_eq_true rfl)) ?_
  rintro w16 ⟨hn17, hx18, hz19⟩
  replace hE := hE.nb hx18 ge_b2
  have nb_hx18 := (Nb.of hb4 (nu_cons rfl (nu_cons rfl nu_nil)))
  replace hb4 : Bk w16 b2 42 [(.bool (decide (k < 0))), vr9] := hn17
  refine RL.nil ?_
  refine wret ?_
  refine ⟨[(.agg #[(.bool (decide (k < 0))), vr9])], ⟨⟨_, _, [(.bool (decide (k < 0))), vr9], rfl, ⟨_, underlying42⟩, hb4.cells rfl, .inl ⟨ag42, ⟨_, _, ty42⟩, rfl⟩⟩, trivial⟩, ?_⟩
  replace hr10 := hr10.apn hx18 nb_hx18
  exact ⟨⟨_, rfl, hr10, (by omega)⟩, hE⟩
 ·have hb6p := of_decide_eq_false hb6
  refine wskip ?_
  refine wsr (mV (v := (.int .i64 (k))) (hF0 0) (rV (r_conv (k := .u64) (a := k) (c := ((k.toNat : Nat) : Int)) underlying3 underlying82 rfl ((wu64 (by omega)).trans (by omega))) ?_))
  refine cL ent102 (n_from (by omega)) rfl ?_
  rintro vr22 w20 ⟨hr23, he21⟩
  replace hr23 := hr23.fr hE
  replace hE := hE.nx he21
  have hlv24 := dl_u64 (n := k.toNat) (by omega)
  refine cL ent110 (i_signed (n := k.toNat) hr23 (show sg false k.toNat = k from (by rw [sg_f]; omega))) rfl ?_
  rintro _ w25 ⟨rfl, he26⟩
  replace hE := hE.nx he26
  have hq27 := mk_abs (show sg false k.toNat = k from (by rw [sg_f]; omega))
  have hlv28 : (digs k.natAbs).length = (digs k.toNat).length := by rw [hq27]
  replace hr23 := hr23.tr (Sm.ext he26)
  rw [hq27] at hr23
  replace hb4 := hb4.ext (Ext.trans he21 he26)
  refine RL.runs rfl rfl (h_store (vv := (.agg #[(.bool (decide (k < 0))), vr22])) (cs := [(.bool (decide (k < 0))), vr22]) (o := 0) ty42 rfl rfl rfl rfl (one_cons rfl (one_cons hr23.one one_nil)) hb4 (Nat.le_of_ble_eq_true rfl)) ?_
  rintro w29 ⟨hn30, hx31, hz32⟩
  replace hE := hE.nb hx31 ge_b2
  have nb_hx31 := (Nb.of hb4 (nu_cons rfl (nu_cons rfl nu_nil)))
  replace hb4 : Bk w29 b2 42 [(.bool (decide (k < 0))), vr22] := hn30
  refine RL.nil ?_
  refine wret ?_
  refine ⟨[(.agg #[(.bool (decide (k < 0))), vr22])], ⟨⟨_, _, [(.bool (decide (k < 0))), vr22], rfl, ⟨_, underlying42⟩, hb4.cells rfl, .inl ⟨ag42, ⟨_, _, ty42⟩, rfl⟩⟩, trivial⟩, ?_⟩
  replace hr23 := hr23.apn hx31 nb_hx31
  exact ⟨⟨_, rfl, hr23, (by omega)⟩, hE⟩
set_option maxHeartbeats 1000000 in
theorem i_sign {w : World} {sx : Bool} {Dx : Nat → TypeId → Prop} {vx : Value} {x : List Nat} (hx : Sg (gN .u32) Dx w vx x) (lmx : Lm x) (lnx : x.length ≤ 274877906944) {zx : Int} (ex : sg sx (val x) = zx) :
    Calls Tryz.prog 68 #[(.agg #[(.bool sx), vx])] w fun e w' => ∃ v, e = .returned v ∧ v = .int .i64 (Int.sign zx) ∧ Ext w w' := by
 have hE : Below w.heap.size w w := Below.refl _ _
 have hlzx := il_le lmx ex
 refine calls_of (n := 11) (rs := [.tmp 2]) func68 rfl rfl rfl (Nat.le_of_ble_eq_true rfl) ?_
 refine wset fun F0 hF0 => ?_
 refine wsr ?_
 refine rU (h_box (vv := (.agg #[(.bool sx), vx])) (cs := [(.bool sx), vx]) (hF0 0) rfl) ?_
 rintro _ w1 ⟨b2, rfl, hs5, hb4, he3⟩
 have ge_b2 := hE.ge hs5
 replace hE := hE.nx he3
 refine aS (v := (.int .i64 0)) rfl (RL.nil (wseq ?_))
 refine wblock ?_
 refine wsr (rV (r_fieldAddr underlying42 rfl ty40 rfl) ?_)
 have hc6 := hb4.cell (j := 1) (u := vx) rfl
 refine rV (r_load underlying40 ag40 rfl hc6) ?_
 replace hx := hx.tr (Sm.ext he3)
 refine cL ent77 (n_compare hx (by assumption) (by first | omega | simp) (Sg.nil (g := gN .u32) (D := (fun b T => w.heap.size ≤ b ∧ T = 96))) Lm.nil (by first | omega | simp)) rfl ?_
 rintro vq10 w7 ⟨hq9, he8⟩
 subst hq9
 replace hE := hE.nx he8
 refine rV (r_eql (k := .i64) (a := cmpI (((val x) : Nat) : Int) (((val ([])) : Nat) : Int)) (b := 0) rfl rfl) (aS (v := (.bool (decide ((cmpI (((val x) : Nat) : Int) (((val ([])) : Nat) : Int)) = 0)))) rfl (RL.nil ?_))
 refine wcond (b := decide ((cmpI (((val x) : Nat) : Int) (((val ([])) : Nat) : Int)) = 0)) rfl (fun hb11 => ?_) (fun hb11 => ?_)
 ·have hb11p := of_decide_eq_true hb11
  have hz : val x = 0 := by have h9 := cmpI_zero.1 hb11p; have h8 : val [] = 0 := rfl; omega
  refine wsr (aS (v := (.int .i64 0)) rfl (RL.nil ?_))
  refine wret ?_
  refine ⟨[(.int .i64 0)], ⟨rfl, trivial⟩, ?_⟩
  exact ⟨int_eq (Int.sign_eq_zero_iff_zero.2 (by rw [← ex, hz, sg_zero])).symm, hE⟩
 ·have hb11p := of_decide_eq_false hb11
  have hz : val x ≠ 0 := fun h => hb11p (cmpI_zero.2 (by rw [h]; rfl))
  refine wsr (rV (r_fieldAddr underlying42 rfl ty4 rfl) ?_)
  replace hb4 := hb4.ext he8
  have hc12 := hb4.cell (j := 0) (u := (.bool sx)) rfl
  refine rV (r_load underlying4 ag4 rfl hc12) (aS (v := (.bool sx)) rfl (RL.nil ?_))
  refine wcond (b := sx) rfl (fun hb13 => ?_) (fun hb13 => ?_)
  ·have hb13p := hb13
   have hsx : sx = true := hb13
   refine wsr (aS (v := (.int .i64 (-1))) rfl (RL.nil ?_))
   refine wret ?_
   refine ⟨[(.int .i64 (-1))], ⟨rfl, trivial⟩, ?_⟩
   exact ⟨int_eq (Int.sign_eq_neg_one_of_neg (by rw [← ex]; exact sg_lt.2 ⟨hsx, by omega⟩)).symm, hE⟩
  ·have hb13p := hb13
   have hsx : sx = false := hb13
   refine wskip ?_
   refine wsr (aS (v := (.int .i64 1)) rfl (RL.nil ?_))
   refine wret ?_
   refine ⟨[(.int .i64 1)], ⟨rfl, trivial⟩, ?_⟩
   exact ⟨int_eq (Int.sign_eq_one_of_pos (by rw [← ex, hsx, sg_f]; omega)).symm, hE⟩
set_option maxHeartbeats 1000000 in
theorem i_compare {w : World} {sx : Bool} {Dx : Nat → TypeId → Prop} {vx : Value} {x : List Nat} (hx : Sg (gN .u32) Dx w vx x) (lmx : Lm x) (lnx : x.length ≤ 274877906944) {zx : Int} (ex : sg sx (val x) = zx) {sy : Bool} {Dy : Nat → TypeId → Prop} {vy : Value} {y : List Nat} (hy : Sg (gN .u32) Dy w vy y) (lmy : Lm y) (lny : y.length ≤ 274877906944) {zy : Int} (ey : sg sy (val y) = zy) :
    Calls Tryz.prog 89 #[(.agg #[(.bool sx), vx]), (.agg #[(.bool sy), vy])] w fun e w' => ∃ v, e = .returned v ∧ v = .int .i64 (cmpI zx zy) ∧ Ext w w' := by
 have hE : Below w.heap.size w w := Below.refl _ _
 have hlzx := il_le lmx ex
 have hlzy := il_le lmy ey
 refine calls_of (n := 32) (rs := [.tmp 4]) func89 rfl rfl rfl (Nat.le_of_ble_eq_true rfl) ?_
 refine wset fun F0 hF0 => ?_
 refine wsr ?_
 refine rU (h_box (vv := (.agg #[(.bool sx), vx])) (cs := [(.bool sx), vx]) (hF0 0) rfl) ?_
 rintro _ w1 ⟨b2, rfl, hs5, hb4, he3⟩
 have ge_b2 := hE.ge hs5
 replace hE := hE.nx he3
 refine rU (h_box (vv := (.agg #[(.bool sy), vy])) (cs := [(.bool sy), vy]) (hF0 1) rfl) ?_
 rintro _ w6 ⟨b7, rfl, hs10, hb9, he8⟩
 have lt_b2_b7 := Nat.lt_of_lt_of_eq hb4.lt hs10.symm
 have ge_b7 := hE.ge hs10
 replace hE := hE.nx he8
 refine aS (v := (.int .i64 0)) rfl (RL.nil (wseq ?_))
 refine wdraw mixed fun w11 he12 => ?_
 replace hE := hE.nx he12
 replace hb4 := hb4.ext (Ext.trans he8 he12)
 have hc13 := hb4.cells (o := 0) (cs := [(.bool sx), vx]) rfl
 refine RA.rd 0 rfl (by kernel_rfl) rfl rfl rfl (by decide) (Ext.refl _) (fun u hu => r_loada (o := 0) (cs := [(.bool sx), vx]) underlying42 ag42 ty42 rfl (fun j v hj => cell_ext hu (hc13 j v hj))) ?_
 replace hb9 := hb9.ext he12
 have hc14 := hb9.cells (o := 0) (cs := [(.bool sy), vy]) rfl
 refine RA.rd 2 rfl (by kernel_rfl) rfl rfl rfl (by decide) (Ext.refl _) (fun u hu => r_loada (o := 0) (cs := [(.bool sy), vy]) underlying42 ag42 ty42 rfl (fun j v hj => cell_ext hu (hc14 j v hj))) ?_
 refine RA.all [1] (by kernel_rfl) rfl ?_
 have hm17 := Ext.trans he3 (Ext.trans he8 he12)
 replace hx := hx.tr (Sm.ext hm17)
 refine RS.call rfl rfl rfl (by decide) (r_call (vl := [(.agg #[(.bool sx), vx])]) ent68 rfl) (i_sign hx (by assumption) (by first | omega | simp) (show sg sx (val x) = zx from ex)) ?_ RS.nil
 rintro _ w15 ⟨rfl, he16⟩
 refine rm he16 ?_
 replace hE := hE.nx he16
 refine RA.all [3] (by kernel_rfl) rfl ?_
 have hm20 := Ext.trans hm17 he16
 replace hy := hy.tr (Sm.ext hm20)
 refine RS.call rfl rfl rfl (by decide) (r_call (vl := [(.agg #[(.bool sy), vy])]) ent68 rfl) (i_sign hy (by assumption) (by first | omega | simp) (show sg sy (val y) = zy from ey)) ?_ RS.nil
 rintro _ w18 ⟨rfl, he19⟩
 refine rm he19 ?_
 replace hE := hE.nx he19
 refine ra 4 rfl (fun _ => r_assign_as (v := (.int .i64 (Int.sign zx))) rfl) ?_
 refine ra 5 rfl (fun _ => r_assign_as (v := (.int .i64 (Int.sign zy))) rfl) ?_
 refine RA.done (by kernel_rfl) ?_
 refine wseq ?_
 refine wblock ?_
 refine wsr (mV (v := (.int .i64 (Int.sign zx))) rfl (mV (v := (.int .i64 (Int.sign zy))) rfl (rV (r_lss (k := .i64) (a := Int.sign zx) (b := Int.sign zy) rfl rfl) (aS (v := (.bool (decide ((Int.sign zx) < (Int.sign zy))))) rfl (RL.nil ?_)))))
 refine wcond (b := decide ((Int.sign zx) < (Int.sign zy))) rfl (fun hb21 => ?_) (fun hb21 => ?_)
 ·have hb21p := of_decide_eq_true hb21
  have hlt := sgn_le hb21p
  refine wsr (aS (v := (.int .i64 (-1))) rfl (RL.nil ?_))
  refine wret ?_
  refine ⟨[(.int .i64 (-1))], ⟨rfl, trivial⟩, ?_⟩
  exact ⟨int_eq (by unfold cmpI; rw [if_pos hlt]), hE⟩
 ·have hb21p := of_decide_eq_false hb21
  have hs1 := hb21p
  refine wsr (mV (v := (.int .i64 (Int.sign zx))) rfl (mV (v := (.int .i64 (Int.sign zy))) rfl (rV (r_gtr (k := .i64) (a := Int.sign zx) (b := Int.sign zy) rfl rfl) (aS (v := (.bool (decide ((Int.sign zy) < (Int.sign zx))))) rfl (RL.nil ?_)))))
  refine wcond (b := decide ((Int.sign zy) < (Int.sign zx))) rfl (fun hb22 => ?_) (fun hb22 => ?_)
  ·have hb22p := of_decide_eq_true hb22
   have hgt := sgn_le hb22p
   refine wsr (aS (v := (.int .i64 1)) rfl (RL.nil ?_))
   refine wret ?_
   refine ⟨[(.int .i64 1)], ⟨rfl, trivial⟩, ?_⟩
   exact ⟨int_eq (by unfold cmpI; rw [if_neg (by omega), if_pos hgt]), hE⟩
  ·have hb22p := of_decide_eq_false hb22
   have hs2 := hb22p
   have hca := cmp_abs hs1 hs2
   refine wsr (mV (v := (.int .i64 (Int.sign zx))) rfl (rV (r_lss (k := .i64) (a := Int.sign zx) (b := 0) rfl rfl) (aS (v := (.bool (decide ((Int.sign zx) < 0)))) rfl (RL.nil ?_))))
   refine wcond (b := decide ((Int.sign zx) < 0)) rfl (fun hb23 => ?_) (fun hb23 => ?_)
   ·have hb23p := of_decide_eq_true hb23
    have hs3 := hb23p
    refine wsr (rV (r_fieldAddr underlying42 rfl ty40 rfl) ?_)
    replace hb9 := hb9.ext (Ext.trans he16 he19)
    have hc24 := hb9.cell (j := 1) (u := vy) rfl
    refine rV (r_load underlying40 ag40 rfl hc24) (rV (r_fieldAddr underlying42 rfl ty40 rfl) ?_)
    replace hb4 := hb4.ext (Ext.trans he16 he19)
    have hc25 := hb4.cell (j := 1) (u := vx) rfl
    refine rV (r_load underlying40 ag40 rfl hc25) ?_
    replace hy := hy.tr (Sm.ext he19)
    replace hx := hx.tr (Sm.ext (Ext.trans he16 he19))
    refine cL ent77 (n_compare hy (by assumption) (by first | omega | simp) hx (by assumption) (by first | omega | simp)) rfl ?_
    rintro vq29 w26 ⟨hq28, he27⟩
    subst hq28
    replace hE := hE.nx he27
    refine aS (v := (.int .i64 (cmpI (((val y) : Nat) : Int) (((val x) : Nat) : Int)))) rfl (RL.nil ?_)
    refine wret ?_
    refine ⟨[(.int .i64 (cmpI (((val y) : Nat) : Int) (((val x) : Nat) : Int)))], ⟨rfl, trivial⟩, ?_⟩
    have ax : zx.natAbs = val x := by rw [← ex, sg_abs]
    have ay : zy.natAbs = val y := by rw [← ey, sg_abs]
    rw [ax, ay] at hca
    exact ⟨int_eq (hca.1 hs3), hE⟩
   ·have hb23p := of_decide_eq_false hb23
    have hs3 := hb23p
    refine wskip ?_
    refine wsr (rV (r_fieldAddr underlying42 rfl ty40 rfl) ?_)
    replace hb4 := hb4.ext (Ext.trans he16 he19)
    have hc30 := hb4.cell (j := 1) (u := vx) rfl
    refine rV (r_load underlying40 ag40 rfl hc30) (rV (r_fieldAddr underlying42 rfl ty40 rfl) ?_)
    replace hb9 := hb9.ext (Ext.trans he16 he19)
    have hc31 := hb9.cell (j := 1) (u := vy) rfl
    refine rV (r_load underlying40 ag40 rfl hc31) ?_
    replace hx := hx.tr (Sm.ext (Ext.trans he16 he19))
    replace hy := hy.tr (Sm.ext he19)
    refine cL ent77 (n_compare hx (by assumption) (by first | omega | simp) hy (by assumption) (by first | omega | simp)) rfl ?_
    rintro vq35 w32 ⟨hq34, he33⟩
    subst hq34
    replace hE := hE.nx he33
    refine aS (v := (.int .i64 (cmpI (((val x) : Nat) : Int) (((val y) : Nat) : Int)))) rfl (RL.nil ?_)
    refine wret ?_
    refine ⟨[(.int .i64 (cmpI (((val x) : Nat) : Int) (((val y) : Nat) : Int)))], ⟨rfl, trivial⟩, ?_⟩
    have ax : zx.natAbs = val x := by rw [← ex, sg_abs]
    have ay : zy.natAbs = val y := by rw [← ey, sg_abs]
    rw [ax, ay] at hca
    exact ⟨int_eq (hca.2 hs3), hE⟩
end Go.Proofs.YtffgajgibddfmaaGreat
namespace Go.Vm
theorem low_law {z : Int} {d : Nat} (hd : d ≠ 0) : (Rat.divInt z (d : Int)).num.natAbs = z.natAbs / Nat.gcd z.natAbs d ∧ (Rat.divInt z (d : Int)).den = d / Nat.gcd z.natAbs d ∧ ((Rat.divInt z (d : Int)).num < 0 ↔ z < 0) := by
  have hz : (d : Int) ≠ 0 := by omega
  have hlaw := (make_law (zx := z) hz).2
  have hg : Int.gcd z (d : Int) = Nat.gcd z.natAbs d := rfl
  rw [hg] at hlaw
  have hgp : 0 < Nat.gcd z.natAbs d := Nat.gcd_pos_of_pos_right _ (by omega)
  have hn : ¬ ((d : Int) / ((Nat.gcd z.natAbs d : Nat) : Int) < 0) := by
    have := Int.ediv_nonneg (a := (d : Int)) (b := ((Nat.gcd z.natAbs d : Nat) : Int)) (by omega) (by omega)
    omega
  obtain ⟨h1, h2⟩ := hlaw hn
  have hdv : ((Nat.gcd z.natAbs d : Nat) : Int) ∣ z := Int.ofNat_dvd_left.2 (Nat.gcd_dvd_left _ _)
  refine ⟨?_, ?_, ?_⟩
  · rw [h1, Int.natAbs_ediv_of_dvd hdv, Int.natAbs_natCast]
  · rw [h2, ← Int.natCast_ediv, Int.natAbs_natCast]
  · rw [h1]
    obtain ⟨k, hk⟩ := hdv
    generalize hG : ((Nat.gcd z.natAbs d : Nat) : Int) = G at *
    have hGp : 0 < G := by omega
    rw [hk, Int.mul_ediv_cancel_left _ (by omega)]
    constructor
    · intro h; exact Int.mul_neg_of_pos_of_neg hGp h
    · intro h
      rcases Int.lt_or_le k 0 with h3 | h3
      · exact h3
      · have := Int.mul_nonneg (Int.le_of_lt hGp) h3; omega
theorem rat_sign {s : Bool} {n d : Nat} {q : Rat} (hd : d ≠ 0) (h : ratOf s n d = q) : Int.sign (sg s n) = Int.sign q.num := by
  have hl := low_law (z := sg s n) hd
  unfold ratOf at h
  rw [h] at hl
  rcases Int.lt_trichotomy (sg s n) 0 with h1 | h1 | h1
  · rw [Int.sign_eq_neg_one_of_neg h1, Int.sign_eq_neg_one_of_neg (hl.2.2.2 h1)]
  · have h2 : q.num.natAbs = 0 := by rw [hl.1, h1]; simp
    rw [h1, show q.num = 0 by omega]
  · have h3 : ¬ q.num < 0 := fun h4 => by have := hl.2.2.1 h4; omega
    have h4 : q.num.natAbs ≠ 0 := by
      rw [hl.1]
      have hdv : Nat.gcd (sg s n).natAbs d ∣ (sg s n).natAbs := Nat.gcd_dvd_left _ _
      have hp := Nat.div_pos (Nat.le_of_dvd (by omega) hdv) (Nat.gcd_pos_of_pos_right (sg s n).natAbs (by omega : 0 < d))
      omega
    rw [Int.sign_eq_one_of_pos h1, Int.sign_eq_one_of_pos (by omega)]
theorem ratOf_den0 (b : Bool) (n : Nat) : ratOf b n 0 = 0 := by unfold ratOf; exact Rat.divInt_zero _
theorem mul31 {a b : Int} (ha : -2147483648 < a ∧ a < 2147483648) (hb : -2147483648 < b ∧ b < 2147483648) : -4611686018427387904 < a * b ∧ a * b < 4611686018427387904 := by
  have h : (a * b).natAbs ≤ 2147483647 * 2147483647 := by rw [Int.natAbs_mul]; exact Nat.mul_le_mul (by omega) (by omega)
  omega
theorem radd_small {a b c d : Int} {p q : Rat} (hc : 0 < c) (hd : 0 < d) (h1 : Rat.divInt a c = p) (h2 : Rat.divInt b d = q) : Rat.divInt (a * d + b * c) (c * d) = p + q := by
  rw [← h1, ← h2, Rat.divInt_add_divInt _ _ (by omega) (by omega)]
theorem rmul_small {a b c d : Int} {p q : Rat} (h1 : Rat.divInt a c = p) (h2 : Rat.divInt b d = q) : Rat.divInt (a * b) (c * d) = p * q := by
  rw [← h1, ← h2, Rat.divInt_mul_divInt]
theorem radd_same {a b c : Int} {p q : Rat} (hc : c ≠ 0) (h1 : Rat.divInt a c = p) (h2 : Rat.divInt b c = q) : Rat.divInt (a + b) c = p + q := by
  rw [← h1, ← h2, Rat.divInt_add_divInt _ _ hc hc, ← Int.add_mul, Rat.divInt_mul_right hc]
theorem pos_sign {a : Int} {c : Int} (hc : 0 < c) : (Rat.divInt a c < 0 ↔ a < 0) := by
  have h := low_law (z := a) (d := c.natAbs) (by omega)
  rw [show ((c.natAbs : Nat) : Int) = c by omega] at h
  rw [← h.2.2]
  have := Rat.num_nonneg (q := Rat.divInt a c)
  constructor
  · intro h1
    rcases Int.lt_or_le (Rat.divInt a c).num 0 with h2 | h2
    · exact h2
    · have := this.1 h2; grind
  · intro h1
    rcases Rat.le_total (a := 0) (b := Rat.divInt a c) with h2 | h2
    · have := this.2 h2; omega
    · rcases Classical.em (Rat.divInt a c = 0) with h3 | h3
      · rw [h3] at h1; exact absurd h1 (by decide)
      · grind
theorem rcmp_lt {a b c d : Int} {p q : Rat} (hc : 0 < c) (hd : 0 < d) (h1 : Rat.divInt a c = p) (h2 : Rat.divInt b d = q) : (a * d < b * c ↔ p < q) := by
  have h3 : Rat.divInt (-b) d = -q := by rw [← Rat.neg_divInt, h2]
  have h4 := radd_small hc hd h1 h3
  have h5 := pos_sign (a := a * d + -b * c) (c := c * d) (Int.mul_pos hc hd)
  rw [h4] at h5
  rw [Int.neg_mul] at h5
  constructor
  · intro h; have := h5.2 (by omega); grind
  · intro h; have := h5.1 (by grind); omega
theorem radd_len (p q : Rat) : (digs (p + q).num.natAbs).length ≤ max ((digs p.num.natAbs).length + (digs q.den).length) ((digs q.num.natAbs).length + (digs p.den).length) + 1 ∧ (digs (p + q).den).length ≤ (digs p.den).length + (digs q.den).length := by
  rw [← radd_law p q]
  have h1 := rl_num (a := p.num * (q.den : Int) + q.num * (p.den : Int)) (b := (p.den : Int) * (q.den : Int))
  have h2 := rl_den (a := p.num * (q.den : Int) + q.num * (p.den : Int)) (b := (p.den : Int) * (q.den : Int))
  have h3 := il_add (p.num * (q.den : Int)) (q.num * (p.den : Int))
  have h4 := il_mul p.num (q.den : Int)
  have h5 := il_mul q.num (p.den : Int)
  have h6 := il_mul (p.den : Int) (q.den : Int)
  have h7 := den_one p
  rw [Int.natAbs_natCast] at h4 h5
  rw [Int.natAbs_natCast, Int.natAbs_natCast] at h6
  exact ⟨by omega, by omega⟩
theorem rmul_len (p q : Rat) : (digs (p * q).num.natAbs).length ≤ (digs p.num.natAbs).length + (digs q.num.natAbs).length ∧ (digs (p * q).den).length ≤ (digs p.den).length + (digs q.den).length := by
  rw [← rmul_law p q]
  have h1 := rl_num (a := p.num * q.num) (b := (p.den : Int) * (q.den : Int))
  have h2 := rl_den (a := p.num * q.num) (b := (p.den : Int) * (q.den : Int))
  have h4 := il_mul p.num q.num
  have h6 := il_mul (p.den : Int) (q.den : Int)
  have h7 := den_one p
  rw [Int.natAbs_natCast, Int.natAbs_natCast] at h6
  exact ⟨by omega, by omega⟩
end Go.Vm
namespace Go.Proofs.YtffgajgibddfmaaGreat
open Go.Vg Go.RowKit _root_.Go.Proofs.Tryz
set_option linter.unusedVariables false
open Go.Vm
set_option maxHeartbeats 1000000 in
theorem r02_sign {w : World} {sx : Bool} {Dx : Nat → TypeId → Prop} {vx : Value} {x : List Nat} (hx : Sg (gN .u32) Dx w vx x) (lmx : Lm x) (lnx : x.length ≤ 8796093022208) {zx : Int} (ex : sg sx (val x) = zx) :
    Calls Tryz.prog 81 #[(.agg #[(.bool sx), vx])] w fun e w' => ∃ v, e = .returned v ∧ v = .int .i64 (Int.sign zx) ∧ Ext w w' := by
 have hE : Below w.heap.size w w := Below.refl _ _
 have hlzx := il_le lmx ex
 refine calls_of (n := 13) (rs := [.tmp 2]) func81 rfl rfl rfl (Nat.le_of_ble_eq_true rfl) ?_
 refine wset fun F0 hF0 => ?_
 refine wsr ?_
 refine rU (h_box (vv := (.agg #[(.bool sx), vx])) (cs := [(.bool sx), vx]) (hF0 0) rfl) ?_
 rintro _ w1 ⟨b2, rfl, hs5, hb4, he3⟩
 have ge_b2 := hE.ge hs5
 replace hE := hE.nx he3
 refine aS (v := (.int .i64 0)) rfl (RL.nil (wsr ?_))
 have hc6 := hb4.cells (o := 0) (cs := [(.bool sx), vx]) rfl
 refine rV (r_loada (o := 0) (cs := [(.bool sx), vx]) underlying42 ag42 ty42 rfl hc6) ?_
 replace hx := hx.tr (Sm.ext he3)
 refine RL.call rfl rfl (by decide) (r_call (vl := [(.agg #[(.bool sx), vx])]) ent82 rfl) (r02_norm hx (by assumption) (by first | omega | simp) (show sg sx (val x) = zx from ex)) ?_
 rintro _ w7 ⟨⟨vr9, rfl, hr10, hl11⟩, he8⟩
 replace hr10 := hr10.fr hE
 replace hE := hE.nx he8
 replace hb4 := hb4.ext he8
 refine RL.runs rfl rfl (h_store (vv := (.agg #[(.bool (decide (zx < 0))), vr9])) (cs := [(.bool (decide (zx < 0))), vr9]) (o := 0) ty42 rfl rfl rfl rfl (one_cons rfl (one_cons hr10.one one_nil)) hb4 (Nat.le_of_ble_eq_true rfl)) ?_
 rintro w12 ⟨hn13, hx14, hz15⟩
 replace hE := hE.nb hx14 ge_b2
 have nb_hx14 := (Nb.of hb4 (nu_cons rfl (nu_cons hx.nu nu_nil)))
 replace hb4 : Bk w12 b2 42 [(.bool (decide (zx < 0))), vr9] := hn13
 refine RL.nil (wseq ?_)
 refine wblock ?_
 refine wsr (rV (r_fieldAddr underlying42 rfl ty4 rfl) ?_)
 have hc16 := hb4.cell (j := 0) (u := (.bool (decide (zx < 0)))) rfl
 refine rV (r_load underlying4 ag4 rfl hc16) (aS (v := (.bool (decide (zx < 0)))) rfl (RL.nil ?_))
 refine wcond (b := decide (zx < 0)) rfl (fun hb17 => ?_) (fun hb17 => ?_)
 ·have hb17p := of_decide_eq_true hb17
  have hz := hb17p
  refine wsr (aS (v := (.int .i64 (-1))) rfl (RL.nil ?_))
  refine wret ?_
  refine ⟨[(.int .i64 (-1))], ⟨rfl, trivial⟩, ?_⟩
  exact ⟨int_eq (Int.sign_eq_neg_one_of_neg hz).symm, hE⟩
 ·have hb17p := of_decide_eq_false hb17
  have hz := hb17p
  refine wsr (rV (r_fieldAddr underlying42 rfl ty40 rfl) ?_)
  have hc18 := hb4.cell (j := 1) (u := vr9) rfl
  refine rV (r_load underlying40 ag40 rfl hc18) ?_
  obtain ⟨A19, c20, hv21, hc22, hc23⟩ := hr10.len
  refine rV (r_len underlying40 hv21) (rV (r_eql (k := .i64) (a := (((digs zx.natAbs).length : Nat) : Int)) (b := 0) rfl rfl) (aS (v := (.bool (decide ((((digs zx.natAbs).length : Nat) : Int) = 0)))) rfl (RL.nil ?_)))
  refine wcond (b := decide ((((digs zx.natAbs).length : Nat) : Int) = 0)) rfl (fun hb24 => ?_) (fun hb24 => ?_)
  ·have hb24p := of_decide_eq_true hb24
   have hz0 : zx.natAbs = 0 := len_zero.1 (by unfold len; omega)
   refine wsr (aS (v := (.int .i64 0)) rfl (RL.nil ?_))
   refine wret ?_
   refine ⟨[(.int .i64 0)], ⟨rfl, trivial⟩, ?_⟩
   exact ⟨int_eq (Int.sign_eq_zero_iff_zero.2 (by omega)).symm, hE⟩
  ·have hb24p := of_decide_eq_false hb24
   have hz0 : zx.natAbs ≠ 0 := fun h => by have := len_zero.2 h; unfold len at this; omega
   refine wskip ?_
   refine wsr (aS (v := (.int .i64 1)) rfl (RL.nil ?_))
   refine wret ?_
   refine ⟨[(.int .i64 1)], ⟨rfl, trivial⟩, ?_⟩
   exact ⟨int_eq (Int.sign_eq_one_of_pos (by omega)).symm, hE⟩
set_option maxHeartbeats 1000000 in
theorem r02_from {w : World} {k : Int} (hk : -9223372036854775808 ≤ k ∧ k ≤ 9223372036854775807) :
    Calls Tryz.prog 57 #[(.int .i64 (k))] w fun e w' => ∃ v, e = .returned v ∧ (∃ vr, v = .agg #[.bool (decide (k < 0)), vr] ∧ Sg (gN .u32) (fun b T => w.heap.size ≤ b ∧ T = 96) w' vr (digs k.natAbs) ∧ (digs k.natAbs).length ≤ 2) ∧ Ext w w' := by
 have hE : Below w.heap.size w w := Below.refl _ _
 refine calls_of (n := 16) (rs := [.cell 2 42]) func57 rfl rfl rfl (Nat.le_of_ble_eq_true rfl) ?_
 refine wset fun F0 hF0 => ?_
 refine wsr ?_
 refine rU (h_alloc (cs := [(.bool false), (.slice none 0 0)]) ty42 rfl) ?_
 rintro _ w1 ⟨b2, rfl, hs5, hb4, he3⟩
 have ge_b2 := hE.ge hs5
 replace hE := hE.nx he3
 refine RL.nil (wseq (wsr (mV (v := (.int .i64 (k))) (hF0 0) (rV (r_lss (k := .i64) (a := k) (b := 0) rfl rfl) (RL.nil ?_)))))
 refine wcond (b := decide (k < 0)) rfl (fun hb6 => ?_) (fun hb6 => ?_)
 ·have hb6p := of_decide_eq_true hb6
  refine wsr (mV (v := (.int .i64 (k))) (hF0 0) (rV (r_add (k := .i64) (a := k) (b := 1) (c := k + 1) rfl rfl (wi64 (by omega))) (rV (r_neg (k := .i64) (a := k + 1) (c := -(k + 1)) rfl ((wi64 (by omega)).trans (by omega))) (rV (r_conv (k := .u64) (a := -(k + 1)) (c := (((-(k + 1)).toNat : Nat) : Int)) underlying3 underlying82 rfl ((wu64 (by omega)).trans (by omega))) (rV (r_add (k := .u64) (a := (((-(k + 1)).toNat : Nat) : Int)) (b := 1) (c := (((-k).toNat : Nat) : Int)) rfl rfl ((wu64 (by omega)).trans (by omega))) ?_)))))
  refine cL ent87 (r01_from (by omega)) rfl ?_
  rintro vr9 w7 ⟨hr10, he8⟩
  replace hr10 := hr10.fr hE
  replace hE := hE.nx he8
  have hlv11 := dl_u64 (n := (-k).toNat) (by omega)
  refine cL ent86 (r02_make hr10 (digs_lm _) (by first | omega | simp) (show sg true (val (digs ((-k).toNat))) = k from (by rw [val_digs, sg_t]; omega))) rfl ?_
  rintro _ w12 ⟨⟨vr14, rfl, hr15, hl16⟩, he13⟩
  replace hr15 := hr15.fr hE
  replace hE := hE.nx he13
  replace hb4 := hb4.ext (Ext.trans he8 he13)
  refine RL.runs rfl rfl (h_store (vv := (.agg #[(.bool (decide (k < 0))), vr14])) (cs := [(.bool (decide (k < 0))), vr14]) (o := 0) ty42 rfl rfl rfl rfl (one_cons rfl (one_cons hr15.one one_nil)) hb4 (Nat.le_of_ble_eq_true rfl)) ?_
  rintro w17 ⟨hn18, hx19, hz20⟩
  replace hE := hE.nb hx19 ge_b2
  have nb_hx19 := (Nb.of hb4 (nu_cons rfl (nu_cons rfl nu_nil)))
  replace hb4 : Bk w17 b2 42 [(.bool (decide (k < 0))), vr14] := hn18
  refine RL.nil ?_
  refine wret ?_
  refine ⟨[(.agg #[(.bool (decide (k < 0))), vr14])], ⟨⟨_, _, [(.bool (decide (k < 0))), vr14], rfl, ⟨_, underlying42⟩, hb4.cells rfl, .inl ⟨ag42, ⟨_, _, ty42⟩, rfl⟩⟩, trivial⟩, ?_⟩
  replace hr15 := hr15.apn hx19 nb_hx19
  exact ⟨⟨_, rfl, hr15, (by omega)⟩, hE⟩
 ·have hb6p := of_decide_eq_false hb6
  refine wskip ?_
  refine wsr (mV (v := (.int .i64 (k))) (hF0 0) (rV (r_conv (k := .u64) (a := k) (c := ((k.toNat : Nat) : Int)) underlying3 underlying82 rfl ((wu64 (by omega)).trans (by omega))) ?_))
  refine cL ent87 (r01_from (by omega)) rfl ?_
  rintro vr23 w21 ⟨hr24, he22⟩
  replace hr24 := hr24.fr hE
  replace hE := hE.nx he22
  have hlv25 := dl_u64 (n := k.toNat) (by omega)
  refine cL ent86 (r02_make hr24 (digs_lm _) (by first | omega | simp) (show sg false (val (digs k.toNat)) = k from (by rw [val_digs, sg_f]; omega))) rfl ?_
  rintro _ w26 ⟨⟨vr28, rfl, hr29, hl30⟩, he27⟩
  replace hr29 := hr29.fr hE
  replace hE := hE.nx he27
  replace hb4 := hb4.ext (Ext.trans he22 he27)
  refine RL.runs rfl rfl (h_store (vv := (.agg #[(.bool (decide (k < 0))), vr28])) (cs := [(.bool (decide (k < 0))), vr28]) (o := 0) ty42 rfl rfl rfl rfl (one_cons rfl (one_cons hr29.one one_nil)) hb4 (Nat.le_of_ble_eq_true rfl)) ?_
  rintro w31 ⟨hn32, hx33, hz34⟩
  replace hE := hE.nb hx33 ge_b2
  have nb_hx33 := (Nb.of hb4 (nu_cons rfl (nu_cons rfl nu_nil)))
  replace hb4 : Bk w31 b2 42 [(.bool (decide (k < 0))), vr28] := hn32
  refine RL.nil ?_
  refine wret ?_
  refine ⟨[(.agg #[(.bool (decide (k < 0))), vr28])], ⟨⟨_, _, [(.bool (decide (k < 0))), vr28], rfl, ⟨_, underlying42⟩, hb4.cells rfl, .inl ⟨ag42, ⟨_, _, ty42⟩, rfl⟩⟩, trivial⟩, ?_⟩
  replace hr29 := hr29.apn hx33 nb_hx33
  exact ⟨⟨_, rfl, hr29, (by omega)⟩, hE⟩
set_option maxHeartbeats 4000000 in
theorem r02_divmod {w : World} {sx : Bool} {Dx : Nat → TypeId → Prop} {vx : Value} {x : List Nat} (hx : Sg (gN .u32) Dx w vx x) (lmx : Lm x) (lnx : x.length ≤ 274877906944) {zx : Int} (ex : sg sx (val x) = zx) {sy : Bool} {Dy : Nat → TypeId → Prop} {vy : Value} {y : List Nat} (hy : Sg (gN .u32) Dy w vy y) (lmy : Lm y) (lny : y.length ≤ 274877906944) {zy : Int} (ey : sg sy (val y) = zy) :
    Calls Tryz.prog 84 #[(.agg #[(.bool sx), vx]), (.agg #[(.bool sy), vy])] w fun e w' => ∃ v, e = .returned v ∧ (∃ vq vr, v = .tuple #[.agg #[.bool (decide (zx / zy < 0)), vq], .agg #[.bool (decide (modI zx zy < 0)), vr], .bool (decide (zy ≠ 0))] ∧ Sg (gN .u32) (fun b T => w.heap.size ≤ b ∧ T = 96) w' vq (digs (zx / zy).natAbs) ∧ (digs (zx / zy).natAbs).length ≤ x.length + 3 ∧ Sg (gN .u32) (fun b T => w.heap.size ≤ b ∧ T = 96) w' vr (digs (modI zx zy).natAbs) ∧ (digs (modI zx zy).natAbs).length ≤ y.length) ∧ Ext w w' := by
 have hE : Below w.heap.size w w := Below.refl _ _
 have hlzx := il_le lmx ex
 have hlzy := il_le lmy ey
 refine calls_of (n := 49) (rs := [.cell 4 42, .cell 5 42, .tmp 6]) func84 rfl rfl rfl (Nat.le_of_ble_eq_true rfl) ?_
 refine wset fun F0 hF0 => ?_
 refine wsr ?_
 refine rU (h_box (vv := (.agg #[(.bool sx), vx])) (cs := [(.bool sx), vx]) (hF0 0) rfl) ?_
 rintro _ w1 ⟨b2, rfl, hs5, hb4, he3⟩
 have ge_b2 := hE.ge hs5
 replace hE := hE.nx he3
 refine rU (h_box (vv := (.agg #[(.bool sy), vy])) (cs := [(.bool sy), vy]) (hF0 1) rfl) ?_
 rintro _ w6 ⟨b7, rfl, hs10, hb9, he8⟩
 have lt_b2_b7 := Nat.lt_of_lt_of_eq hb4.lt hs10.symm
 have ge_b7 := hE.ge hs10
 replace hE := hE.nx he8
 refine rU (h_alloc (cs := [(.bool false), (.slice none 0 0)]) ty42 rfl) ?_
 rintro _ w11 ⟨b12, rfl, hs15, hb14, he13⟩
 have lt_b7_b12 := Nat.lt_of_lt_of_eq hb9.lt hs15.symm
 have ge_b12 := hE.ge hs15
 replace hE := hE.nx he13
 refine rU (h_alloc (cs := [(.bool false), (.slice none 0 0)]) ty42 rfl) ?_
 rintro _ w16 ⟨b17, rfl, hs20, hb19, he18⟩
 have lt_b12_b17 := Nat.lt_of_lt_of_eq hb14.lt hs20.symm
 have ge_b17 := hE.ge hs20
 replace hE := hE.nx he18
 refine aS (v := (.bool false)) rfl (RL.nil (wsr (rV (r_fieldAddr underlying42 rfl ty40 rfl) ?_)))
 have hm22 := Ext.trans he8 (Ext.trans he13 he18)
 replace hb4 := hb4.ext hm22
 have hc21 := hb4.cell (j := 1) (u := vx) rfl
 refine rV (r_load underlying40 ag40 rfl hc21) (rV (r_fieldAddr underlying42 rfl ty40 rfl) ?_)
 replace hb9 := hb9.ext (Ext.trans he13 he18)
 have hc23 := hb9.cell (j := 1) (u := vy) rfl
 refine rV (r_load underlying40 ag40 rfl hc23) ?_
 have hm32 := Ext.trans he3 (Ext.trans he8 (Ext.trans he13 he18))
 replace hx := hx.tr (Sm.ext hm32)
 replace hy := hy.tr (Sm.ext hm32)
 refine cL ent116 (r01_divmod hx (by assumption) (by first | omega | simp) hy (by assumption) (by first | omega | simp)) rfl ?_
 rintro vv30 w24 ⟨⟨vq26, vr28, hv31, hq27, hr29⟩, he25⟩
 subst hv31
 have hlv33 := dl_val (x := x) (by assumption)
 have hlv34 := dl_val (x := y) (by assumption)
 have hlv35 := dl_div (val x) (val y)
 have hlv36 := dl_modZ (val x) (val y)
 have hlv37 := dl_modZ' (val x) (val y)
 replace hq27 := hq27.fr hE
 replace hr29 := hr29.fr hE
 replace hE := hE.nx he25
 refine mV (v := (.tuple #[vq26, vr28, (.bool (decide ((val y) ≠ 0)))])) rfl (rV (r_extract (v := vq26) rfl rfl) (rV (r_extract (v := vr28) rfl rfl) (rV (r_extract (v := (.bool (decide ((val y) ≠ 0)))) rfl rfl) (aS (v := vq26) rfl (aS (v := vr28) rfl (aS (v := (.bool (decide ((val y) ≠ 0)))) rfl (RL.nil (wseq (wsr (mV (v := (.bool (decide ((val y) ≠ 0)))) rfl (rV (r_not rfl) (RL.nil ?_))))))))))))
 refine wcond (b := !(decide ((val y) ≠ 0))) rfl (fun hb38 => ?_) (fun hb38 => ?_)
 ·have hb38p := hb38
  have hyn : val y = 0 := by simpa using hb38
  have hy0 : zy = 0 := by rw [← ey, hyn, sg_zero]
  refine wsr (rV (r_build (vl := []) (cs := [(.bool false), (.slice none 0 0)]) underlying42 ty42 rfl (pl42 underlying42) rfl) (rV (r_build (vl := []) (cs := [(.bool false), (.slice none 0 0)]) underlying42 ty42 rfl (pl42 underlying42) rfl) ?_))
  replace hb14 := hb14.ext (Ext.trans he18 he25)
  refine RL.runs rfl rfl (h_store (vv := (.agg #[(.bool false), (.slice none 0 0)])) (cs := [(.bool false), (.slice none 0 0)]) (o := 0) ty42 rfl rfl rfl rfl (one_cons rfl (one_cons rfl one_nil)) hb14 (Nat.le_of_ble_eq_true rfl)) ?_
  rintro w39 ⟨hn40, hx41, hz42⟩
  replace hE := hE.nb hx41 ge_b12
  have nb_hx41 := (Nb.of hb14 (nu_cons rfl (nu_cons rfl nu_nil)))
  replace hb14 : Bk w39 b12 42 [(.bool false), (.slice none 0 0)] := hn40
  replace hb19 := (hb19.ext he25).exc hx41 (Nat.ne_of_gt lt_b12_b17)
  refine RL.runs rfl rfl (h_store (vv := (.agg #[(.bool false), (.slice none 0 0)])) (cs := [(.bool false), (.slice none 0 0)]) (o := 0) ty42 rfl rfl rfl rfl (one_cons rfl (one_cons rfl one_nil)) hb19 (Nat.le_of_ble_eq_true rfl)) ?_
  rintro w43 ⟨hn44, hx45, hz46⟩
  replace hE := hE.nb hx45 ge_b17
  have nb_hx45 := (Nb.of hb19 (nu_cons rfl (nu_cons rfl nu_nil)))
  replace hb19 : Bk w43 b17 42 [(.bool false), (.slice none 0 0)] := hn44
  refine aS (v := (.bool false)) rfl (RL.nil ?_)
  refine wret ?_
  replace hb14 := hb14.exc hx45 (Nat.ne_of_lt lt_b12_b17)
  refine ⟨[(.agg #[(.bool false), (.slice none 0 0)]), (.agg #[(.bool false), (.slice none 0 0)]), (.bool false)], ⟨⟨_, _, [(.bool false), (.slice none 0 0)], rfl, ⟨_, underlying42⟩, hb14.cells rfl, .inl ⟨ag42, ⟨_, _, ty42⟩, rfl⟩⟩, ⟨⟨_, _, [(.bool false), (.slice none 0 0)], rfl, ⟨_, underlying42⟩, hb19.cells rfl, .inl ⟨ag42, ⟨_, _, ty42⟩, rfl⟩⟩, ⟨rfl, trivial⟩⟩⟩, ?_⟩
  exact ⟨⟨_, _, by rw [hy0, Int.ediv_zero, decide_eq_false (show ¬ ((0 : Int) ≠ 0) by decide)]; rfl, by rw [hy0, Int.ediv_zero]; exact Sg.nil, by rw [hy0, Int.ediv_zero]; exact Nat.zero_le _, by rw [hy0]; exact Sg.nil, by rw [hy0]; exact Nat.zero_le _⟩, hE⟩
 ·have hb38p := hb38
  have hyn : val y ≠ 0 := by simpa using hb38
  refine wskip ?_
  refine wseq ?_
  obtain ⟨Q0, hQ0⟩ : ∃ z, sg (sx != sy) (val (digs ((val x) / (val y)))) = z := ⟨_, rfl⟩
  obtain ⟨R0, hR0⟩ : ∃ z, sg sx (val (digs (modZ (val x) (val y)))) = z := ⟨_, rfl⟩
  have hlaw := idiv_law (Q := Q0) (R := R0) ex ey hyn (by rw [← hQ0, val_digs]) (by rw [← hR0, val_digs, show modZ (val x) (val y) = val x % val y from if_neg hyn])
  have hyz : zy ≠ 0 := fun h => hyn (sg_eq_zero.1 (ey.trans h))
  refine wdraw mixed fun w47 he48 => ?_
  replace hE := hE.nx he48
  refine ra 0 rfl (fun _ => r_fieldAddr underlying42 rfl ty4 rfl) ?_
  replace hb4 := hb4.ext (Ext.trans he25 he48)
  have hc49 := hb4.cell (j := 0) (u := (.bool sx)) rfl
  refine RA.rd 1 rfl (by kernel_rfl) rfl rfl rfl (by decide) (Ext.refl _) (fun u hu => r_load underlying4 ag4 rfl (cell_ext hu hc49)) ?_
  refine ra 2 rfl (fun _ => r_fieldAddr underlying42 rfl ty4 rfl) ?_
  replace hb9 := hb9.ext (Ext.trans he25 he48)
  have hc50 := hb9.cell (j := 0) (u := (.bool sy)) rfl
  refine RA.rd 3 rfl (by kernel_rfl) rfl rfl rfl (by decide) (Ext.refl _) (fun u hu => r_load underlying4 ag4 rfl (cell_ext hu hc50)) ?_
  refine ra 4 rfl (fun _ => r_neqb underlying4 rfl rfl) ?_
  refine ra 5 rfl (fun _ => r_move_as (v := vq26) rfl) ?_
  refine ra 7 rfl (fun _ => r_fieldAddr underlying42 rfl ty4 rfl) ?_
  have hc51 := hb4.cell (j := 0) (u := (.bool sx)) rfl
  refine RA.rd 8 rfl (by kernel_rfl) rfl rfl rfl (by decide) (Ext.refl _) (fun u hu => r_load underlying4 ag4 rfl (cell_ext hu hc51)) ?_
  refine ra 9 rfl (fun _ => r_move_as (v := vr28) rfl) ?_
  refine RA.all [6] (by kernel_rfl) rfl ?_
  replace hq27 := hq27.tr (Sm.ext he48)
  refine RS.call rfl rfl rfl (by decide) (r_call (vl := [(.bool (sx != sy)), vq26]) ent86 rfl) (r02_make hq27 (digs_lm _) (by first | omega | simp) (show sg (sx != sy) (val (digs ((val x) / (val y)))) = Q0 from hQ0)) ?_ RS.nil
  rintro _ w52 ⟨⟨vr54, rfl, hr55, hl56⟩, he53⟩
  refine rm he53 ?_
  replace hr55 := hr55.fr hE
  replace hE := hE.nx he53
  refine RA.all [10] (by kernel_rfl) rfl ?_
  replace hr29 := hr29.tr (Sm.ext (Ext.trans he48 he53))
  refine RS.call rfl rfl rfl (by decide) (r_call (vl := [(.bool sx), vr28]) ent86 rfl) (r02_make hr29 (digs_lm _) (by first | omega | simp) (show sg sx (val (digs (modZ (val x) (val y)))) = R0 from hR0)) ?_ RS.nil
  rintro _ w57 ⟨⟨vr59, rfl, hr60, hl61⟩, he58⟩
  refine rm he58 ?_
  replace hr60 := hr60.fr hE
  replace hE := hE.nx he58
  refine RA.all [11] (by kernel_rfl) rfl ?_
  have hm66 := Ext.trans he18 (Ext.trans he25 (Ext.trans he48 (Ext.trans he53 he58)))
  replace hb14 := hb14.ext hm66
  refine RS.runs rfl rfl rfl (h_store (vv := (.agg #[(.bool (decide (Q0 < 0))), vr54])) (cs := [(.bool (decide (Q0 < 0))), vr54]) (o := 0) ty42 rfl rfl rfl rfl (one_cons rfl (one_cons hr55.one one_nil)) hb14 (Nat.le_of_ble_eq_true rfl)) ?_ RS.nil
  rintro w62 ⟨hn63, hx64, hz65⟩
  refine ⟨.inr (.inl (by kernel_rfl)), ?_⟩
  replace hE := hE.nb hx64 ge_b12
  have nb_hx64 := (Nb.of hb14 (nu_cons rfl (nu_cons rfl nu_nil)))
  replace hb14 : Bk w62 b12 42 [(.bool (decide (Q0 < 0))), vr54] := hn63
  refine RA.all [12] (by kernel_rfl) rfl ?_
  have hm71 := Ext.trans he25 (Ext.trans he48 (Ext.trans he53 he58))
  replace hb19 := (hb19.ext hm71).exc hx64 (Nat.ne_of_gt lt_b12_b17)
  refine RS.runs rfl rfl rfl (h_store (vv := (.agg #[(.bool (decide (R0 < 0))), vr59])) (cs := [(.bool (decide (R0 < 0))), vr59]) (o := 0) ty42 rfl rfl rfl rfl (one_cons rfl (one_cons hr60.one one_nil)) hb19 (Nat.le_of_ble_eq_true rfl)) ?_ RS.nil
  rintro w67 ⟨hn68, hx69, hz70⟩
  refine ⟨.inr (.inl (by kernel_rfl)), ?_⟩
  replace hE := hE.nb hx69 ge_b17
  have nb_hx69 := (Nb.of hb19 (nu_cons rfl (nu_cons rfl nu_nil)))
  replace hb19 : Bk w67 b17 42 [(.bool (decide (R0 < 0))), vr59] := hn68
  refine RA.done (by kernel_rfl) ?_
  refine wseq (wsr (rV (r_fieldAddr underlying42 rfl ty4 rfl) ?_))
  have hc72 := hb19.cell (j := 0) (u := (.bool (decide (R0 < 0)))) rfl
  refine rV (r_load underlying4 ag4 rfl hc72) (RL.nil ?_)
  refine wcond (b := decide (R0 < 0)) rfl (fun hb73 => ?_) (fun hb73 => ?_)
  ·have hb73p := of_decide_eq_true hb73
   have hR := hb73p
   refine wseq ?_
   refine wdraw mixed fun w74 he75 => ?_
   replace hE := hE.nx he75
   replace hb19 := hb19.ext he75
   have hc76 := hb19.cells (o := 0) (cs := [(.bool (decide (R0 < 0))), vr59]) rfl
   refine RA.rd 0 rfl (by kernel_rfl) rfl rfl rfl (by decide) (Ext.refl _) (fun u hu => r_loada (o := 0) (cs := [(.bool (decide (R0 < 0))), vr59]) underlying42 ag42 ty42 rfl (fun j v hj => cell_ext hu (hc76 j v hj))) ?_
   replace hb9 := (((hb9.ext (Ext.trans he53 he58)).exc hx64 (Nat.ne_of_lt lt_b7_b12)).exc hx69 (Nat.ne_of_lt (Nat.lt_trans lt_b7_b12 lt_b12_b17))).ext he75
   have hc77 := hb9.cells (o := 0) (cs := [(.bool sy), vy]) rfl
   refine RA.rd 1 rfl (by kernel_rfl) rfl rfl rfl (by decide) (Ext.refl _) (fun u hu => r_loada (o := 0) (cs := [(.bool sy), vy]) underlying42 ag42 ty42 rfl (fun j v hj => cell_ext hu (hc77 j v hj))) ?_
   refine RA.all [2] (by kernel_rfl) rfl ?_
   replace hy := (((hy.tr (Sm.ext hm71)).apn hx64 nb_hx64).apn hx69 nb_hx69).tr (Sm.ext he75)
   refine RS.call rfl rfl rfl (by decide) (r_call (vl := [(.agg #[(.bool sy), vy])]) ent117 rfl) (r02_abs hy (by assumption) (by first | omega | simp) (show sg sy (val y) = zy from ey)) ?_ RS.nil
   rintro _ w78 ⟨⟨vr80, rfl, hr81, hl82⟩, he79⟩
   refine rm he79 ?_
   replace hr81 := hr81.fr hE
   replace hE := hE.nx he79
   refine RA.all [3] (by kernel_rfl) rfl ?_
   replace hr60 := ((hr60.apn hx64 nb_hx64).apn hx69 nb_hx69).tr (Sm.ext (Ext.trans he75 he79))
   refine RS.call rfl rfl rfl (by decide) (r_call (vl := [(.agg #[(.bool (decide (R0 < 0))), vr59]), (.agg #[(.bool (decide (((zy.natAbs : Nat) : Int) < 0))), vr80])]) ent107 rfl) (r02_add hr60 (digs_lm _) (by first | omega | simp) (sg_canon _) hr81 (digs_lm _) (by first | omega | simp) (sg_canon _)) ?_ RS.nil
   rintro _ w83 ⟨⟨vr85, rfl, hr86, hl87⟩, he84⟩
   refine rm he84 ?_
   replace hr86 := hr86.fr hE
   replace hE := hE.nx he84
   refine RA.all [4] (by kernel_rfl) rfl ?_
   replace hb19 := hb19.ext (Ext.trans he79 he84)
   refine RS.runs rfl rfl rfl (h_store (vv := (.agg #[(.bool (decide ((R0 + ((zy.natAbs : Nat) : Int)) < 0))), vr85])) (cs := [(.bool (decide ((R0 + ((zy.natAbs : Nat) : Int)) < 0))), vr85]) (o := 0) ty42 rfl rfl rfl rfl (one_cons rfl (one_cons hr86.one one_nil)) hb19 (Nat.le_of_ble_eq_true rfl)) ?_ RS.nil
   rintro w88 ⟨hn89, hx90, hz91⟩
   refine ⟨.inr (.inl (by kernel_rfl)), ?_⟩
   replace hE := hE.nb hx90 ge_b17
   have nb_hx90 := (Nb.of hb19 (nu_cons rfl (nu_cons hr60.nu nu_nil)))
   replace hb19 : Bk w88 b17 42 [(.bool (decide ((R0 + ((zy.natAbs : Nat) : Int)) < 0))), vr85] := hn89
   refine RA.done (by kernel_rfl) ?_
   refine wsr (rV (r_fieldAddr underlying42 rfl ty4 rfl) ?_)
   replace hb9 := (hb9.ext (Ext.trans he79 he84)).exc hx90 (Nat.ne_of_lt (Nat.lt_trans lt_b7_b12 lt_b12_b17))
   have hc92 := hb9.cell (j := 0) (u := (.bool sy)) rfl
   refine rV (r_load underlying4 ag4 rfl hc92) (RL.nil ?_)
   refine wcond (b := sy) rfl (fun hb93 => ?_) (fun hb93 => ?_)
   ·have hb93p := hb93
    have hsy : sy = true := hb93
    refine wdraw mixed fun w94 he95 => ?_
    replace hE := hE.nx he95
    have hm97 := Ext.trans he75 (Ext.trans he79 he84)
    replace hb14 := (((hb14.exc hx69 (Nat.ne_of_lt lt_b12_b17)).ext hm97).exc hx90 (Nat.ne_of_lt lt_b12_b17)).ext he95
    have hc96 := hb14.cells (o := 0) (cs := [(.bool (decide (Q0 < 0))), vr54]) rfl
    refine RA.rd 0 rfl (by kernel_rfl) rfl rfl rfl (by decide) (Ext.refl _) (fun u hu => r_loada (o := 0) (cs := [(.bool (decide (Q0 < 0))), vr54]) underlying42 ag42 ty42 rfl (fun j v hj => cell_ext hu (hc96 j v hj))) ?_
    refine RA.all [1] (by kernel_rfl) rfl ?_
    refine RS.call rfl rfl rfl (by decide) (r_call (vl := [(.int .i64 1)]) ent57 rfl) (r02_from (by omega)) ?_ RS.nil
    rintro _ w98 ⟨⟨vr100, rfl, hr101, hl102⟩, he99⟩
    refine rm he99 ?_
    replace hr101 := hr101.fr hE
    replace hE := hE.nx he99
    refine RA.all [2] (by kernel_rfl) rfl ?_
    replace hr55 := (((((hr55.tr (Sm.ext he58)).apn hx64 nb_hx64).apn hx69 nb_hx69).tr (Sm.ext hm97)).apn hx90 nb_hx90).tr (Sm.ext (Ext.trans he95 he99))
    refine RS.call rfl rfl rfl (by decide) (r_call (vl := [(.agg #[(.bool (decide (Q0 < 0))), vr54]), (.agg #[(.bool (decide (1 < 0))), vr100])]) ent107 rfl) (r02_add hr55 (digs_lm _) (by first | omega | simp) (sg_canon _) hr101 (digs_lm _) (by first | omega | simp) (sg_canon _)) ?_ RS.nil
    rintro _ w103 ⟨⟨vr105, rfl, hr106, hl107⟩, he104⟩
    refine rm he104 ?_
    replace hr106 := hr106.fr hE
    replace hE := hE.nx he104
    refine RA.all [3] (by kernel_rfl) rfl ?_
    replace hb14 := hb14.ext (Ext.trans he99 he104)
    refine RS.runs rfl rfl rfl (h_store (vv := (.agg #[(.bool (decide ((Q0 + 1) < 0))), vr105])) (cs := [(.bool (decide ((Q0 + 1) < 0))), vr105]) (o := 0) ty42 rfl rfl rfl rfl (one_cons rfl (one_cons hr106.one one_nil)) hb14 (Nat.le_of_ble_eq_true rfl)) ?_ RS.nil
    rintro w108 ⟨hn109, hx110, hz111⟩
    refine ⟨.inr (.inl (by kernel_rfl)), ?_⟩
    replace hE := hE.nb hx110 ge_b12
    have nb_hx110 := (Nb.of hb14 (nu_cons rfl (nu_cons hr55.nu nu_nil)))
    replace hb14 : Bk w108 b12 42 [(.bool (decide ((Q0 + 1) < 0))), vr105] := hn109
    refine RA.done (by kernel_rfl) ?_
    refine wseq ?_
    refine wdrawT (fun u => Bk u b17 42 [(.bool (decide ((R0 + ((zy.natAbs : Nat) : Int)) < 0))), vr85]) mixed fun w112 he113 => ?_
    replace hE := hE.nx he113
    have hm114 := Ext.trans he95 (Ext.trans he99 he104)
    replace hb19 := ((hb19.ext hm114).exc hx110 (Nat.ne_of_gt lt_b12_b17)).ext he113
    refine RA.rd 1 rfl (by kernel_rfl) rfl rfl rfl (by decide) hb19 (fun u hu => r_loada (o := 0) (cs := [(.bool (decide ((R0 + ((zy.natAbs : Nat) : Int)) < 0))), vr85]) underlying42 ag42 ty42 rfl (hu.cells (o := 0) (cs := [(.bool (decide ((R0 + ((zy.natAbs : Nat) : Int)) < 0))), vr85]) rfl)) ?_
    refine RA.all [0] (by kernel_rfl) rfl ?_
    replace hb14 := hb14.ext he113
    have hc116 := hb14.cells (o := 0) (cs := [(.bool (decide ((Q0 + 1) < 0))), vr105]) rfl
    refine RS.val rfl rfl rfl (by decide) (r_loada (o := 0) (cs := [(.bool (decide ((Q0 + 1) < 0))), vr105]) underlying42 ag42 ty42 rfl hc116) (.inl ⟨rfl, rfl⟩) ?_ RS.nil
    refine RA.all [2] (by kernel_rfl) rfl ?_
    refine RS.runs rfl rfl rfl (h_store (vv := (.agg #[(.bool (decide ((Q0 + 1) < 0))), vr105])) (cs := [(.bool (decide ((Q0 + 1) < 0))), vr105]) (o := 0) ty42 rfl rfl rfl rfl (one_cons rfl (one_cons hr106.one one_nil)) hb14 (Nat.le_of_ble_eq_true rfl)) ?_ RS.nil
    rintro w117 ⟨hn118, hx119, hz120⟩
    replace hE := hE.nb hx119 ge_b12
    have nb_hx119 := (Nb.of hb14 (nu_cons rfl (nu_cons hr106.nu nu_nil)))
    replace hb14 : Bk w117 b12 42 [(.bool (decide ((Q0 + 1) < 0))), vr105] := hn118
    replace hb19 := hb19.exc hx119 (Nat.ne_of_gt lt_b12_b17)
    refine ⟨.inr (.inr hb19), ?_⟩
    refine RA.all [3] (by kernel_rfl) rfl ?_
    refine RS.runs rfl rfl rfl (h_store (vv := (.agg #[(.bool (decide ((R0 + ((zy.natAbs : Nat) : Int)) < 0))), vr85])) (cs := [(.bool (decide ((R0 + ((zy.natAbs : Nat) : Int)) < 0))), vr85]) (o := 0) ty42 rfl rfl rfl rfl (one_cons rfl (one_cons hr86.one one_nil)) hb19 (Nat.le_of_ble_eq_true rfl)) ?_ RS.nil
    rintro w121 ⟨hn122, hx123, hz124⟩
    refine ⟨.inr (.inl (by kernel_rfl)), ?_⟩
    replace hE := hE.nb hx123 ge_b17
    have nb_hx123 := (Nb.of hb19 (nu_cons rfl (nu_cons hr86.nu nu_nil)))
    replace hb19 : Bk w121 b17 42 [(.bool (decide ((R0 + ((zy.natAbs : Nat) : Int)) < 0))), vr85] := hn122
    refine ra 4 rfl (fun _ => r_assign_as (v := (.bool true)) rfl) ?_
    refine RA.done (by kernel_rfl) ?_
    refine wret ?_
    replace hb14 := hb14.exc hx123 (Nat.ne_of_lt lt_b12_b17)
    refine ⟨[(.agg #[(.bool (decide ((Q0 + 1) < 0))), vr105]), (.agg #[(.bool (decide ((R0 + ((zy.natAbs : Nat) : Int)) < 0))), vr85]), (.bool true)], ⟨⟨_, _, [(.bool (decide ((Q0 + 1) < 0))), vr105], rfl, ⟨_, underlying42⟩, hb14.cells rfl, .inl ⟨ag42, ⟨_, _, ty42⟩, rfl⟩⟩, ⟨⟨_, _, [(.bool (decide ((R0 + ((zy.natAbs : Nat) : Int)) < 0))), vr85], rfl, ⟨_, underlying42⟩, hb19.cells rfl, .inl ⟨ag42, ⟨_, _, ty42⟩, rfl⟩⟩, ⟨rfl, trivial⟩⟩⟩, ?_⟩
    replace hr106 := (((hr106.apn hx110 nb_hx110).tr (Sm.ext he113)).apn hx119 nb_hx119).apn hx123 nb_hx123
    have hq1 := hr106
    replace hr86 := (((((hr86.apn hx90 nb_hx90).tr (Sm.ext hm114)).apn hx110 nb_hx110).tr (Sm.ext he113)).apn hx119 nb_hx119).apn hx123 nb_hx123
    have hr1 := hr86
    have eq1 : zx / zy = (Q0 + 1) := by first | exact (hlaw.2 hR).1 | exact (hlaw.1 hR).1 hsy | exact (hlaw.1 hR).2.1 hsy
    have er1 : modI zx zy = (R0 + ((zy.natAbs : Nat) : Int)) := by rw [show modI zx zy = zx % zy from if_neg hyz]; first | exact (hlaw.2 hR).2 | exact (hlaw.1 hR).2.2
    have hlm := il_modI zx zy
    exact ⟨⟨_, _, by rw [eq1, er1, decide_eq_true hyz]; rfl, by rw [eq1]; exact hq1, by rw [eq1]; omega, by rw [er1]; exact hr1, by omega⟩, hE⟩
   ·have hb93p := hb93
    have hsy : sy = false := hb93
    refine wdraw mixed fun w125 he126 => ?_
    replace hE := hE.nx he126
    have hm128 := Ext.trans he75 (Ext.trans he79 he84)
    replace hb14 := (((hb14.exc hx69 (Nat.ne_of_lt lt_b12_b17)).ext hm128).exc hx90 (Nat.ne_of_lt lt_b12_b17)).ext he126
    have hc127 := hb14.cells (o := 0) (cs := [(.bool (decide (Q0 < 0))), vr54]) rfl
    refine RA.rd 0 rfl (by kernel_rfl) rfl rfl rfl (by decide) (Ext.refl _) (fun u hu => r_loada (o := 0) (cs := [(.bool (decide (Q0 < 0))), vr54]) underlying42 ag42 ty42 rfl (fun j v hj => cell_ext hu (hc127 j v hj))) ?_
    refine RA.all [1] (by kernel_rfl) rfl ?_
    refine RS.call rfl rfl rfl (by decide) (r_call (vl := [(.int .i64 1)]) ent57 rfl) (r02_from (by omega)) ?_ RS.nil
    rintro _ w129 ⟨⟨vr131, rfl, hr132, hl133⟩, he130⟩
    refine rm he130 ?_
    replace hr132 := hr132.fr hE
    replace hE := hE.nx he130
    refine RA.all [2] (by kernel_rfl) rfl ?_
    replace hr55 := (((((hr55.tr (Sm.ext he58)).apn hx64 nb_hx64).apn hx69 nb_hx69).tr (Sm.ext hm128)).apn hx90 nb_hx90).tr (Sm.ext (Ext.trans he126 he130))
    refine RS.call rfl rfl rfl (by decide) (r_call (vl := [(.agg #[(.bool (decide (Q0 < 0))), vr54]), (.agg #[(.bool (decide (1 < 0))), vr131])]) ent118 rfl) (r02_sub hr55 (digs_lm _) (by first | omega | simp) (sg_canon _) hr132 (digs_lm _) (by first | omega | simp) (sg_canon _)) ?_ RS.nil
    rintro _ w134 ⟨⟨vr136, rfl, hr137, hl138⟩, he135⟩
    refine rm he135 ?_
    replace hr137 := hr137.fr hE
    replace hE := hE.nx he135
    refine RA.all [3] (by kernel_rfl) rfl ?_
    replace hb14 := hb14.ext (Ext.trans he130 he135)
    refine RS.runs rfl rfl rfl (h_store (vv := (.agg #[(.bool (decide ((Q0 - 1) < 0))), vr136])) (cs := [(.bool (decide ((Q0 - 1) < 0))), vr136]) (o := 0) ty42 rfl rfl rfl rfl (one_cons rfl (one_cons hr137.one one_nil)) hb14 (Nat.le_of_ble_eq_true rfl)) ?_ RS.nil
    rintro w139 ⟨hn140, hx141, hz142⟩
    refine ⟨.inr (.inl (by kernel_rfl)), ?_⟩
    replace hE := hE.nb hx141 ge_b12
    have nb_hx141 := (Nb.of hb14 (nu_cons rfl (nu_cons hr55.nu nu_nil)))
    replace hb14 : Bk w139 b12 42 [(.bool (decide ((Q0 - 1) < 0))), vr136] := hn140
    refine RA.done (by kernel_rfl) ?_
    refine wseq ?_
    refine wdrawT (fun u => Bk u b17 42 [(.bool (decide ((R0 + ((zy.natAbs : Nat) : Int)) < 0))), vr85]) mixed fun w143 he144 => ?_
    replace hE := hE.nx he144
    have hm145 := Ext.trans he126 (Ext.trans he130 he135)
    replace hb19 := ((hb19.ext hm145).exc hx141 (Nat.ne_of_gt lt_b12_b17)).ext he144
    refine RA.rd 1 rfl (by kernel_rfl) rfl rfl rfl (by decide) hb19 (fun u hu => r_loada (o := 0) (cs := [(.bool (decide ((R0 + ((zy.natAbs : Nat) : Int)) < 0))), vr85]) underlying42 ag42 ty42 rfl (hu.cells (o := 0) (cs := [(.bool (decide ((R0 + ((zy.natAbs : Nat) : Int)) < 0))), vr85]) rfl)) ?_
    refine RA.all [0] (by kernel_rfl) rfl ?_
    replace hb14 := hb14.ext he144
    have hc147 := hb14.cells (o := 0) (cs := [(.bool (decide ((Q0 - 1) < 0))), vr136]) rfl
    refine RS.val rfl rfl rfl (by decide) (r_loada (o := 0) (cs := [(.bool (decide ((Q0 - 1) < 0))), vr136]) underlying42 ag42 ty42 rfl hc147) (.inl ⟨rfl, rfl⟩) ?_ RS.nil
    refine RA.all [2] (by kernel_rfl) rfl ?_
    refine RS.runs rfl rfl rfl (h_store (vv := (.agg #[(.bool (decide ((Q0 - 1) < 0))), vr136])) (cs := [(.bool (decide ((Q0 - 1) < 0))), vr136]) (o := 0) ty42 rfl rfl rfl rfl (one_cons rfl (one_cons hr137.one one_nil)) hb14 (Nat.le_of_ble_eq_true rfl)) ?_ RS.nil
    rintro w148 ⟨hn149, hx150, hz151⟩
    replace hE := hE.nb hx150 ge_b12
    have nb_hx150 := (Nb.of hb14 (nu_cons rfl (nu_cons hr137.nu nu_nil)))
    replace hb14 : Bk w148 b12 42 [(.bool (decide ((Q0 - 1) < 0))), vr136] := hn149
    replace hb19 := hb19.exc hx150 (Nat.ne_of_gt lt_b12_b17)
    refine ⟨.inr (.inr hb19), ?_⟩
    refine RA.all [3] (by kernel_rfl) rfl ?_
    refine RS.runs rfl rfl rfl (h_store (vv := (.agg #[(.bool (decide ((R0 + ((zy.natAbs : Nat) : Int)) < 0))), vr85])) (cs := [(.bool (decide ((R0 + ((zy.natAbs : Nat) : Int)) < 0))), vr85]) (o := 0) ty42 rfl rfl rfl rfl (one_cons rfl (one_cons hr86.one one_nil)) hb19 (Nat.le_of_ble_eq_true rfl)) ?_ RS.nil
    rintro w152 ⟨hn153, hx154, hz155⟩
    refine ⟨.inr (.inl (by kernel_rfl)), ?_⟩
    replace hE := hE.nb hx154 ge_b17
    have nb_hx154 := (Nb.of hb19 (nu_cons rfl (nu_cons hr86.nu nu_nil)))
    replace hb19 : Bk w152 b17 42 [(.bool (decide ((R0 + ((zy.natAbs : Nat) : Int)) < 0))), vr85] := hn153
    refine ra 4 rfl (fun _ => r_assign_as (v := (.bool true)) rfl) ?_
    refine RA.done (by kernel_rfl) ?_
    refine wret ?_
    replace hb14 := hb14.exc hx154 (Nat.ne_of_lt lt_b12_b17)
    refine ⟨[(.agg #[(.bool (decide ((Q0 - 1) < 0))), vr136]), (.agg #[(.bool (decide ((R0 + ((zy.natAbs : Nat) : Int)) < 0))), vr85]), (.bool true)], ⟨⟨_, _, [(.bool (decide ((Q0 - 1) < 0))), vr136], rfl, ⟨_, underlying42⟩, hb14.cells rfl, .inl ⟨ag42, ⟨_, _, ty42⟩, rfl⟩⟩, ⟨⟨_, _, [(.bool (decide ((R0 + ((zy.natAbs : Nat) : Int)) < 0))), vr85], rfl, ⟨_, underlying42⟩, hb19.cells rfl, .inl ⟨ag42, ⟨_, _, ty42⟩, rfl⟩⟩, ⟨rfl, trivial⟩⟩⟩, ?_⟩
    replace hr137 := (((hr137.apn hx141 nb_hx141).tr (Sm.ext he144)).apn hx150 nb_hx150).apn hx154 nb_hx154
    have hq1 := hr137
    replace hr86 := (((((hr86.apn hx90 nb_hx90).tr (Sm.ext hm145)).apn hx141 nb_hx141).tr (Sm.ext he144)).apn hx150 nb_hx150).apn hx154 nb_hx154
    have hr1 := hr86
    have eq1 : zx / zy = (Q0 - 1) := by first | exact (hlaw.2 hR).1 | exact (hlaw.1 hR).1 hsy | exact (hlaw.1 hR).2.1 hsy
    have er1 : modI zx zy = (R0 + ((zy.natAbs : Nat) : Int)) := by rw [show modI zx zy = zx % zy from if_neg hyz]; first | exact (hlaw.2 hR).2 | exact (hlaw.1 hR).2.2
    have hlm := il_modI zx zy
    exact ⟨⟨_, _, by rw [eq1, er1, decide_eq_true hyz]; rfl, by rw [eq1]; exact hq1, by rw [eq1]; omega, by rw [er1]; exact hr1, by omega⟩, hE⟩
  ·have hb73p := of_decide_eq_false hb73
   have hR := hb73p
   refine wskip ?_
   refine wseq ?_
   refine wdrawT (fun u => Bk u b17 42 [(.bool (decide (R0 < 0))), vr59]) mixed fun w156 he157 => ?_
   replace hE := hE.nx he157
   replace hb19 := hb19.ext he157
   refine RA.rd 1 rfl (by kernel_rfl) rfl rfl rfl (by decide) hb19 (fun u hu => r_loada (o := 0) (cs := [(.bool (decide (R0 < 0))), vr59]) underlying42 ag42 ty42 rfl (hu.cells (o := 0) (cs := [(.bool (decide (R0 < 0))), vr59]) rfl)) ?_
   refine RA.all [0] (by kernel_rfl) rfl ?_
   replace hb14 := (hb14.exc hx69 (Nat.ne_of_lt lt_b12_b17)).ext he157
   have hc159 := hb14.cells (o := 0) (cs := [(.bool (decide (Q0 < 0))), vr54]) rfl
   refine RS.val rfl rfl rfl (by decide) (r_loada (o := 0) (cs := [(.bool (decide (Q0 < 0))), vr54]) underlying42 ag42 ty42 rfl hc159) (.inl ⟨rfl, rfl⟩) ?_ RS.nil
   refine RA.all [2] (by kernel_rfl) rfl ?_
   refine RS.runs rfl rfl rfl (h_store (vv := (.agg #[(.bool (decide (Q0 < 0))), vr54])) (cs := [(.bool (decide (Q0 < 0))), vr54]) (o := 0) ty42 rfl rfl rfl rfl (one_cons rfl (one_cons hr55.one one_nil)) hb14 (Nat.le_of_ble_eq_true rfl)) ?_ RS.nil
   rintro w160 ⟨hn161, hx162, hz163⟩
   replace hE := hE.nb hx162 ge_b12
   have nb_hx162 := (Nb.of hb14 (nu_cons rfl (nu_cons hr55.nu nu_nil)))
   replace hb14 : Bk w160 b12 42 [(.bool (decide (Q0 < 0))), vr54] := hn161
   replace hb19 := hb19.exc hx162 (Nat.ne_of_gt lt_b12_b17)
   refine ⟨.inr (.inr hb19), ?_⟩
   refine RA.all [3] (by kernel_rfl) rfl ?_
   refine RS.runs rfl rfl rfl (h_store (vv := (.agg #[(.bool (decide (R0 < 0))), vr59])) (cs := [(.bool (decide (R0 < 0))), vr59]) (o := 0) ty42 rfl rfl rfl rfl (one_cons rfl (one_cons hr60.one one_nil)) hb19 (Nat.le_of_ble_eq_true rfl)) ?_ RS.nil
   rintro w164 ⟨hn165, hx166, hz167⟩
   refine ⟨.inr (.inl (by kernel_rfl)), ?_⟩
   replace hE := hE.nb hx166 ge_b17
   have nb_hx166 := (Nb.of hb19 (nu_cons rfl (nu_cons hr60.nu nu_nil)))
   replace hb19 : Bk w164 b17 42 [(.bool (decide (R0 < 0))), vr59] := hn165
   refine ra 4 rfl (fun _ => r_assign_as (v := (.bool true)) rfl) ?_
   refine RA.done (by kernel_rfl) ?_
   refine wret ?_
   replace hb14 := hb14.exc hx166 (Nat.ne_of_lt lt_b12_b17)
   refine ⟨[(.agg #[(.bool (decide (Q0 < 0))), vr54]), (.agg #[(.bool (decide (R0 < 0))), vr59]), (.bool true)], ⟨⟨_, _, [(.bool (decide (Q0 < 0))), vr54], rfl, ⟨_, underlying42⟩, hb14.cells rfl, .inl ⟨ag42, ⟨_, _, ty42⟩, rfl⟩⟩, ⟨⟨_, _, [(.bool (decide (R0 < 0))), vr59], rfl, ⟨_, underlying42⟩, hb19.cells rfl, .inl ⟨ag42, ⟨_, _, ty42⟩, rfl⟩⟩, ⟨rfl, trivial⟩⟩⟩, ?_⟩
   replace hr55 := (((((hr55.tr (Sm.ext he58)).apn hx64 nb_hx64).apn hx69 nb_hx69).tr (Sm.ext he157)).apn hx162 nb_hx162).apn hx166 nb_hx166
   have hq1 := hr55
   replace hr60 := ((((hr60.apn hx64 nb_hx64).apn hx69 nb_hx69).tr (Sm.ext he157)).apn hx162 nb_hx162).apn hx166 nb_hx166
   have hr1 := hr60
   have eq1 : zx / zy = Q0 := by first | exact (hlaw.2 hR).1 | exact (hlaw.1 hR).1 hsy | exact (hlaw.1 hR).2.1 hsy
   have er1 : modI zx zy = R0 := by rw [show modI zx zy = zx % zy from if_neg hyz]; first | exact (hlaw.2 hR).2 | exact (hlaw.1 hR).2.2
   have hlm := il_modI zx zy
   exact ⟨⟨_, _, by rw [eq1, er1, decide_eq_true hyz]; rfl, by rw [eq1]; exact hq1, by rw [eq1]; omega, by rw [er1]; exact hr1, by omega⟩, hE⟩
end Go.Proofs.YtffgajgibddfmaaGreat
namespace Go.Proofs.YtffgajgibddfmaaGreat
open Go.Vg Go.RowKit _root_.Go.Proofs.Tryz
set_option linter.unusedVariables false
open Go.Vm
theorem agg3 {b c : Bool} {v u : Value} (h : b = c) : Value.agg #[.bool b, v, u] = .agg #[.bool c, v, u] := by rw [h]
def cmpQ (a b : Rat) : Int := if a < b then -1 else if b < a then 1 else 0
theorem num_neg_iff (q : Rat) : q.num < 0 ↔ q < 0 := by
  have := Rat.num_nonneg (q := q)
  constructor
  · intro h; rcases Rat.le_total (a := 0) (b := q) with h1 | h1
    · have := this.2 h1; omega
    · rcases Classical.em (q = 0) with h2 | h2
      · rw [h2] at h; exact absurd h (by decide)
      · grind
  · intro h
    rcases Int.lt_or_le q.num 0 with h1 | h1
    · exact h1
    · have := this.1 h1; grind
theorem sign_eq (q : Rat) : Int.sign q.num = 0 ↔ q = 0 := by rw [← Rat.num_eq_zero]; exact Int.sign_eq_zero_iff_zero
set_option maxHeartbeats 1000000 in
theorem r03_zero {w : World} :
    Calls Tryz.prog 72 #[] w fun e w' => ∃ v, e = .returned v ∧ (∃ vn vd, v = .agg #[.bool (decide ((0 : Rat).num < 0)), vn, vd] ∧ Sg (gN .u32) (fun b T => w.heap.size ≤ b ∧ T = 96) w' vn (digs (0 : Rat).num.natAbs) ∧ Sg (gN .u32) (fun b T => w.heap.size ≤ b ∧ T = 96) w' vd (digs (0 : Rat).den) ∧ (digs (0 : Rat).num.natAbs).length ≤ 0 ∧ (digs (0 : Rat).den).length ≤ 1) ∧ Ext w w' := by
 have hE : Below w.heap.size w w := Below.refl _ _
 refine calls_of (n := 5) (rs := [.cell 0 44]) func72 rfl rfl rfl (Nat.le_of_ble_eq_true rfl) ?_
 refine wset fun F0 hF0 => ?_
 refine wsr ?_
 refine rU (h_alloc (cs := [(.bool false), (.slice none 0 0), (.slice none 0 0)]) ty44 rfl) ?_
 rintro _ w1 ⟨b2, rfl, hs5, hb4, he3⟩
 have ge_b2 := hE.ge hs5
 replace hE := hE.nx he3
 refine RL.nil (wsr ?_)
 refine rU (h_lit (vl := []) (cs := []) underlying40 ty96 rfl (by decide) (by first | (simp [Instr.fill, Value.cells]; done) | rfl | kernel_rfl)) ?_
 rintro _ w6 ⟨b7, rfl, hs10, hb9, he8⟩
 have lt_b2_b7 := Nat.lt_of_lt_of_eq hb4.lt hs10.symm
 have ge_b7 := hE.ge hs10
 replace hE := hE.nx he8
 refine rV (r_build (vl := [(1, (.slice (some ⟨b7, 0, none⟩) (0) (0)))]) (cs := [(.bool false), (.slice (some ⟨b7, 0, none⟩) (0) (0))]) underlying42 ty42 rfl (pl42 underlying42) rfl) ?_
 refine rU (h_lit (vl := [(0, (.int .u32 1))]) (cs := [(.int .u32 1)]) underlying40 ty96 rfl (by decide) (by first | (simp [Instr.fill, Value.cells]; done) | rfl | kernel_rfl)) ?_
 rintro _ w11 ⟨b12, rfl, hs15, hb14, he13⟩
 have lt_b7_b12 := Nat.lt_of_lt_of_eq hb9.lt hs15.symm
 have ge_b12 := hE.ge hs15
 replace hE := hE.nx he13
 refine rV (r_build (vl := [(0, (.agg #[(.bool false), (.slice (some ⟨b7, 0, none⟩) (0) (0))])), (1, (.slice (some ⟨b12, 0, none⟩) (1) (1)))]) (cs := [(.bool false), (.slice (some ⟨b7, 0, none⟩) (0) (0)), (.slice (some ⟨b12, 0, none⟩) (1) (1))]) underlying44 ty44 rfl (pl44 underlying44) rfl) ?_
 replace hb4 := hb4.ext (Ext.trans he8 he13)
 refine RL.runs rfl rfl (h_store (vv := (.agg #[(.bool false), (.slice (some ⟨b7, 0, none⟩) (0) (0)), (.slice (some ⟨b12, 0, none⟩) (1) (1))])) (cs := [(.bool false), (.slice (some ⟨b7, 0, none⟩) (0) (0)), (.slice (some ⟨b12, 0, none⟩) (1) (1))]) (o := 0) ty44 rfl rfl rfl rfl (one_cons rfl (one_cons rfl (one_cons rfl one_nil))) hb4 (Nat.le_of_ble_eq_true rfl)) ?_
 rintro w16 ⟨hn17, hx18, hz19⟩
 replace hE := hE.nb hx18 ge_b2
 have nb_hx18 := (Nb.of hb4 (nu_cons rfl (nu_cons rfl (nu_cons rfl nu_nil))))
 replace hb4 : Bk w16 b2 44 [(.bool false), (.slice (some ⟨b7, 0, none⟩) (0) (0)), (.slice (some ⟨b12, 0, none⟩) (1) (1))] := hn17
 refine RL.nil ?_
 refine wret ?_
 refine ⟨[(.agg #[(.bool false), (.slice (some ⟨b7, 0, none⟩) (0) (0)), (.slice (some ⟨b12, 0, none⟩) (1) (1))])], ⟨⟨_, _, [(.bool false), (.slice (some ⟨b7, 0, none⟩) (0) (0)), (.slice (some ⟨b12, 0, none⟩) (1) (1))], rfl, ⟨_, underlying44⟩, hb4.cells rfl, .inl ⟨ag44, ⟨_, _, ty44⟩, rfl⟩⟩, trivial⟩, ?_⟩
 replace hb9 := (hb9.ext he13).exc hx18 (Nat.ne_of_gt lt_b2_b7)
 replace hb14 := hb14.exc hx18 (Nat.ne_of_gt (Nat.lt_trans lt_b2_b7 lt_b7_b12))
 exact ⟨⟨_, _, rfl, hb9.sg (g := gN .u32) (D := (fun b T => w.heap.size ≤ b ∧ T = 96)) (xs := []) ⟨ge_b7, rfl⟩ rfl rfl (by decide), hb14.sg (g := gN .u32) (D := (fun b T => w.heap.size ≤ b ∧ T = 96)) (xs := [1]) ⟨ge_b12, rfl⟩ rfl rfl (by decide), Nat.zero_le _, Nat.le_refl _⟩, hE⟩
set_option maxHeartbeats 4000000 in
theorem r03_make {w : World} {sx : Bool} {Dx : Nat → TypeId → Prop} {vx : Value} {x : List Nat} (hx : Sg (gN .u32) Dx w vx x) (lmx : Lm x) (lnx : x.length ≤ 274877906944) {zx : Int} (ex : sg sx (val x) = zx) {sy : Bool} {Dy : Nat → TypeId → Prop} {vy : Value} {y : List Nat} (hy : Sg (gN .u32) Dy w vy y) (lmy : Lm y) (lny : y.length ≤ 274877906944) {zy : Int} (ey : sg sy (val y) = zy) :
    Calls Tryz.prog 56 #[(.agg #[(.bool sx), vx]), (.agg #[(.bool sy), vy])] w fun e w' => ∃ v, e = .returned v ∧ (∃ vn vd, v = .agg #[.bool (decide ((Rat.divInt zx zy).num < 0)), vn, vd] ∧ Sg (gN .u32) (fun b T => w.heap.size ≤ b ∧ T = 96) w' vn (digs (Rat.divInt zx zy).num.natAbs) ∧ Sg (gN .u32) (fun b T => w.heap.size ≤ b ∧ T = 96) w' vd (digs (Rat.divInt zx zy).den) ∧ (digs (Rat.divInt zx zy).num.natAbs).length ≤ x.length ∧ (digs (Rat.divInt zx zy).den).length ≤ y.length + 1) ∧ Ext w w' := by
 have hE : Below w.heap.size w w := Below.refl _ _
 have hlzx := il_le lmx ex
 have hlzy := il_le lmy ey
 refine calls_of (n := 60) (rs := [.cell 4 44]) func56 rfl rfl rfl (Nat.le_of_ble_eq_true rfl) ?_
 refine wset fun F0 hF0 => ?_
 refine wsr ?_
 refine rU (h_box (vv := (.agg #[(.bool sx), vx])) (cs := [(.bool sx), vx]) (hF0 0) rfl) ?_
 rintro _ w1 ⟨b2, rfl, hs5, hb4, he3⟩
 have ge_b2 := hE.ge hs5
 replace hE := hE.nx he3
 refine rU (h_box (vv := (.agg #[(.bool sy), vy])) (cs := [(.bool sy), vy]) (hF0 1) rfl) ?_
 rintro _ w6 ⟨b7, rfl, hs10, hb9, he8⟩
 have lt_b2_b7 := Nat.lt_of_lt_of_eq hb4.lt hs10.symm
 have ge_b7 := hE.ge hs10
 replace hE := hE.nx he8
 refine rU (h_alloc (cs := [(.bool false), (.slice none 0 0), (.slice none 0 0)]) ty44 rfl) ?_
 rintro _ w11 ⟨b12, rfl, hs15, hb14, he13⟩
 have lt_b7_b12 := Nat.lt_of_lt_of_eq hb9.lt hs15.symm
 have ge_b12 := hE.ge hs15
 replace hE := hE.nx he13
 refine RL.nil (wseq (wsr ?_))
 replace hb9 := hb9.ext he13
 have hc16 := hb9.cells (o := 0) (cs := [(.bool sy), vy]) rfl
 refine rV (r_loada (o := 0) (cs := [(.bool sy), vy]) underlying42 ag42 ty42 rfl hc16) ?_
 have hm19 := Ext.trans he3 (Ext.trans he8 he13)
 replace hy := hy.tr (Sm.ext hm19)
 refine RL.call rfl rfl (by decide) (r_call (vl := [(.agg #[(.bool sy), vy])]) ent81 rfl) (r02_sign hy (by assumption) (by first | omega | simp) (show sg sy (val y) = zy from ey)) ?_
 rintro _ w17 ⟨rfl, he18⟩
 replace hE := hE.nx he18
 refine rV (r_eql (k := .i64) (a := Int.sign zy) (b := 0) rfl rfl) (RL.nil ?_)
 refine wcond (b := decide ((Int.sign zy) = 0)) rfl (fun hb20 => ?_) (fun hb20 => ?_)
 ·have hb20p := of_decide_eq_true hb20
  have hy0 : zy = 0 := Int.sign_eq_zero_iff_zero.1 hb20p
  refine wsr ?_
  refine cL ent72 (r03_zero ) rfl ?_
  rintro _ w21 ⟨⟨vn23, vd25, rfl, hn24, hd26, hl27, hl28⟩, he22⟩
  have hlv29 := den_one (0 : Rat)
  replace hn24 := hn24.fr hE
  replace hd26 := hd26.fr hE
  replace hE := hE.nx he22
  replace hb14 := hb14.ext (Ext.trans he18 he22)
  refine RL.runs rfl rfl (h_store (vv := (.agg #[(.bool (decide ((0 : Rat).num < 0))), vn23, vd25])) (cs := [(.bool (decide ((0 : Rat).num < 0))), vn23, vd25]) (o := 0) ty44 rfl rfl rfl rfl (one_cons rfl (one_cons hn24.one (one_cons hd26.one one_nil))) hb14 (Nat.le_of_ble_eq_true rfl)) ?_
  rintro w30 ⟨hn31, hx32, hz33⟩
  replace hE := hE.nb hx32 ge_b12
  have nb_hx32 := (Nb.of hb14 (nu_cons rfl (nu_cons rfl (nu_cons rfl nu_nil))))
  replace hb14 : Bk w30 b12 44 [(.bool (decide ((0 : Rat).num < 0))), vn23, vd25] := hn31
  refine RL.nil ?_
  refine wret ?_
  refine ⟨[(.agg #[(.bool (decide ((0 : Rat).num < 0))), vn23, vd25])], ⟨⟨_, _, [(.bool (decide ((0 : Rat).num < 0))), vn23, vd25], rfl, ⟨_, underlying44⟩, hb14.cells rfl, .inl ⟨ag44, ⟨_, _, ty44⟩, rfl⟩⟩, trivial⟩, ?_⟩
  have hq : Rat.divInt zx zy = 0 := by rw [hy0, Rat.divInt_zero]
  rw [hq]
  replace hn24 := hn24.apn hx32 nb_hx32
  replace hd26 := hd26.apn hx32 nb_hx32
  exact ⟨⟨_, _, rfl, hn24, hd26, by omega, by omega⟩, hE⟩
 ·have hb20p := of_decide_eq_false hb20
  have hy0 : zy ≠ 0 := fun h => hb20p (Int.sign_eq_zero_iff_zero.2 h)
  have hlaw := make_law (zx := zx) hy0
  refine wskip ?_
  refine wseq (wsr ?_)
  replace hb9 := hb9.ext he18
  have hc34 := hb9.cells (o := 0) (cs := [(.bool sy), vy]) rfl
  refine rV (r_loada (o := 0) (cs := [(.bool sy), vy]) underlying42 ag42 ty42 rfl hc34) ?_
  replace hy := hy.tr (Sm.ext he18)
  refine RL.call rfl rfl (by decide) (r_call (vl := [(.agg #[(.bool sy), vy])]) ent82 rfl) (r02_norm hy (by assumption) (by first | omega | simp) (show sg sy (val y) = zy from ey)) ?_
  rintro _ w35 ⟨⟨vr37, rfl, hr38, hl39⟩, he36⟩
  replace hr38 := hr38.fr hE
  replace hE := hE.nx he36
  refine rU (h_alloc (cs := [(.bool false), (.slice none 0 0)]) ty42 rfl) ?_
  rintro _ w40 ⟨b41, rfl, hs44, hb43, he42⟩
  replace hb14 := hb14.ext (Ext.trans he18 he36)
  have lt_b12_b41 := Nat.lt_of_lt_of_eq hb14.lt hs44.symm
  have ge_b41 := hE.ge hs44
  replace hE := hE.nx he42
  refine RL.runs rfl rfl (h_store (vv := (.agg #[(.bool (decide (zy < 0))), vr37])) (cs := [(.bool (decide (zy < 0))), vr37]) (o := 0) ty42 rfl rfl rfl rfl (one_cons rfl (one_cons hr38.one one_nil)) hb43 (Nat.le_of_ble_eq_true rfl)) ?_
  rintro w45 ⟨hn46, hx47, hz48⟩
  replace hE := hE.nb hx47 ge_b41
  have nb_hx47 := (Nb.of hb43 (nu_cons rfl (nu_cons rfl nu_nil)))
  replace hb43 : Bk w45 b41 42 [(.bool (decide (zy < 0))), vr37] := hn46
  refine RL.nil (wsr (rV (r_fieldAddr underlying42 rfl ty4 rfl) ?_))
  have hc49 := hb43.cell (j := 0) (u := (.bool (decide (zy < 0)))) rfl
  refine rV (r_load underlying4 ag4 rfl hc49) (rV (r_not rfl) (mV (v := (.bool (!(decide (zy < 0))))) rfl ?_))
  rcases Bool.eq_false_or_eq_true (!(decide (zy < 0))) with hb50 | hb50
  ·have hb50p := hb50
   have hyp : ¬ zy < 0 := by simpa using hb50
   refine RL.gval rfl rfl (bool_eq hb50) rfl (by decide) (r_fieldAddr underlying42 rfl ty40 rfl) ?_
   have hc51 := hb43.cell (j := 1) (u := vr37) rfl
   refine RL.gval rfl rfl (bool_eq hb50) rfl (by decide) (r_load underlying40 ag40 rfl hc51) ?_
   refine RL.grun rfl rfl (bool_eq hb50) rfl (by decide) (h_lit (vl := [(0, (.int .u32 1))]) (cs := [(.int .u32 1)]) underlying40 ty96 rfl (by decide) (by first | (simp [Instr.fill, Value.cells]; done) | rfl | kernel_rfl)) ?_
   rintro _ w52 ⟨b53, rfl, hs56, hb55, he54⟩
   have lt_b41_b53 := Nat.lt_of_lt_of_eq hb43.lt hs56.symm
   have ge_b53 := hE.ge hs56
   replace hE := hE.nx he54
   replace hr38 := ((hr38.tr (Sm.ext he42)).apn hx47 nb_hx47).tr (Sm.ext he54)
   refine RL.gcall rfl rfl (bool_eq hb50) rfl (by decide) (r_call (vl := [vr37, (.slice (some ⟨b53, 0, none⟩) (1) (1))]) ent48 rfl) (r01_equal hr38 (hb55.sg (g := gN .u32) (D := fun _ _ => True) (xs := [1]) trivial rfl rfl (by decide))) ?_
   rintro _ w57 ⟨rfl, he58⟩
   replace hE := hE.nx he58
   refine rV (r_pick_t (v := (.bool (decide ((digs zy.natAbs) = [1])))) (bool_eq hb50) rfl) (RL.nil ?_)
   refine wcond (b := decide ((digs zy.natAbs) = [1])) rfl (fun hb59 => ?_) (fun hb59 => ?_)
   ·have hb59p := of_decide_eq_true hb59
    have hyd : digs zy.natAbs = [1] := hb59p
    have hy1 : zy = 1 := by have h1 := congrArg val hyd; rw [val_digs] at h1; simp [val] at h1; omega
    have hya : zy.natAbs = 1 := by omega
    refine wseq ?_
    refine wdraw mixed fun w60 he61 => ?_
    replace hE := hE.nx he61
    have hm63 := Ext.trans he8 (Ext.trans he13 (Ext.trans he18 (Ext.trans he36 he42)))
    have hm64 := Ext.trans he54 (Ext.trans he58 he61)
    replace hb4 := ((hb4.ext hm63).exc hx47 (Nat.ne_of_lt (Nat.lt_trans lt_b2_b7 (Nat.lt_trans lt_b7_b12 lt_b12_b41)))).ext hm64
    have hc62 := hb4.cells (o := 0) (cs := [(.bool sx), vx]) rfl
    refine RA.rd 0 rfl (by kernel_rfl) rfl rfl rfl (by decide) (Ext.refl _) (fun u hu => r_loada (o := 0) (cs := [(.bool sx), vx]) underlying42 ag42 ty42 rfl (fun j v hj => cell_ext hu (hc62 j v hj))) ?_
    refine ra 2 rfl (fun _ => r_fieldAddr underlying42 rfl ty40 rfl) ?_
    replace hb43 := hb43.ext hm64
    have hc65 := hb43.cell (j := 1) (u := vr37) rfl
    refine RA.rd 3 rfl (by kernel_rfl) rfl rfl rfl (by decide) (Ext.refl _) (fun u hu => r_load underlying40 ag40 rfl (cell_ext hu hc65)) ?_
    refine RA.all [1] (by kernel_rfl) rfl ?_
    have hm71 := Ext.trans he3 (Ext.trans he8 (Ext.trans he13 (Ext.trans he18 (Ext.trans he36 he42))))
    replace hx := ((hx.tr (Sm.ext hm71)).apn hx47 nb_hx47).tr (Sm.ext hm64)
    refine RS.call rfl rfl rfl (by decide) (r_call (vl := [(.agg #[(.bool sx), vx])]) ent82 rfl) (r02_norm hx (by assumption) (by first | omega | simp) (show sg sx (val x) = zx from ex)) ?_ RS.nil
    rintro _ w66 ⟨⟨vr68, rfl, hr69, hl70⟩, he67⟩
    refine rm he67 ?_
    replace hr69 := hr69.fr hE
    replace hE := hE.nx he67
    refine ra 4 rfl (fun _ => r_build (vl := [(0, (.agg #[(.bool (decide (zx < 0))), vr68])), (1, vr37)]) (cs := [(.bool (decide (zx < 0))), vr68, vr37]) underlying44 ty44 rfl (pl44 underlying44) (by obtain ⟨_, _, e0_, -, -⟩ := hr38.len; simp only [e0_]; rfl)) ?_
    refine RA.all [5] (by kernel_rfl) rfl ?_
    have hm76 := Ext.trans hm64 he67
    replace hb14 := ((hb14.ext he42).exc hx47 (Nat.ne_of_lt lt_b12_b41)).ext hm76
    refine RS.runs rfl rfl rfl (h_store (vv := (.agg #[(.bool (decide (zx < 0))), vr68, vr37])) (cs := [(.bool (decide (zx < 0))), vr68, vr37]) (o := 0) ty44 rfl rfl rfl rfl (one_cons rfl (one_cons hr69.one (one_cons hr38.one one_nil))) hb14 (Nat.le_of_ble_eq_true rfl)) ?_ RS.nil
    rintro w72 ⟨hn73, hx74, hz75⟩
    refine ⟨.inr (.inl (by kernel_rfl)), ?_⟩
    replace hE := hE.nb hx74 ge_b12
    have nb_hx74 := (Nb.of hb14 (nu_cons rfl (nu_cons rfl (nu_cons rfl nu_nil))))
    replace hb14 : Bk w72 b12 44 [(.bool (decide (zx < 0))), vr68, vr37] := hn73
    refine RA.done (by kernel_rfl) ?_
    refine wret ?_
    refine ⟨[(.agg #[(.bool (decide (zx < 0))), vr68, vr37])], ⟨⟨_, _, [(.bool (decide (zx < 0))), vr68, vr37], rfl, ⟨_, underlying44⟩, hb14.cells rfl, .inl ⟨ag44, ⟨_, _, ty44⟩, rfl⟩⟩, trivial⟩, ?_⟩
    have e1 : (Rat.divInt zx zy).num = zx ∧ (Rat.divInt zx zy).den = zy.natAbs := by
      first | (rw [hy1]; exact divInt_one zx) | exact hlaw.1 hd | exact hlaw.2 hd
    have hl1 := rl_num (a := zx) (b := zy)
    have hl2 := rl_den (a := zx) (b := zy)
    replace hr69 := hr69.apn hx74 nb_hx74
    have hm77 := Ext.trans he58 (Ext.trans he61 he67)
    replace hr38 := (hr38.tr (Sm.ext hm77)).apn hx74 nb_hx74
    exact ⟨⟨_, _, agg3 (by rw [e1.1]), by rw [e1.1]; exact hr69, by rw [e1.2]; exact hr38, by omega, by omega⟩, hE⟩
   ·have hb59p := of_decide_eq_false hb59
    refine wskip ?_
    refine wsr ?_
    have hm79 := Ext.trans he8 (Ext.trans he13 (Ext.trans he18 (Ext.trans he36 he42)))
    replace hb4 := ((hb4.ext hm79).exc hx47 (Nat.ne_of_lt (Nat.lt_trans lt_b2_b7 (Nat.lt_trans lt_b7_b12 lt_b12_b41)))).ext (Ext.trans he54 he58)
    have hc78 := hb4.cells (o := 0) (cs := [(.bool sx), vx]) rfl
    refine rV (r_loada (o := 0) (cs := [(.bool sx), vx]) underlying42 ag42 ty42 rfl hc78) ?_
    replace hb9 := ((hb9.ext (Ext.trans he36 he42)).exc hx47 (Nat.ne_of_lt (Nat.lt_trans lt_b7_b12 lt_b12_b41))).ext (Ext.trans he54 he58)
    have hc80 := hb9.cells (o := 0) (cs := [(.bool sy), vy]) rfl
    refine rV (r_loada (o := 0) (cs := [(.bool sy), vy]) underlying42 ag42 ty42 rfl hc80) ?_
    have hm86 := Ext.trans he3 (Ext.trans he8 (Ext.trans he13 (Ext.trans he18 (Ext.trans he36 he42))))
    replace hx := ((hx.tr (Sm.ext hm86)).apn hx47 nb_hx47).tr (Sm.ext (Ext.trans he54 he58))
    replace hy := ((hy.tr (Sm.ext (Ext.trans he36 he42))).apn hx47 nb_hx47).tr (Sm.ext (Ext.trans he54 he58))
    refine RL.call rfl rfl (by decide) (r_call (vl := [(.agg #[(.bool sx), vx]), (.agg #[(.bool sy), vy])]) ent83 rfl) (r02_gcd hx (by assumption) (by first | omega | simp) (show sg sx (val x) = zx from ex) hy (by assumption) (by first | omega | simp) (show sg sy (val y) = zy from ey)) ?_
    rintro _ w81 ⟨⟨vr83, rfl, hr84, hl85⟩, he82⟩
    replace hr84 := hr84.fr hE
    replace hE := hE.nx he82
    refine rU (h_alloc (cs := [(.bool false), (.slice none 0 0)]) ty42 rfl) ?_
    rintro _ w87 ⟨b88, rfl, hs91, hb90, he89⟩
    replace hb55 := hb55.ext (Ext.trans he58 he82)
    have lt_b53_b88 := Nat.lt_of_lt_of_eq hb55.lt hs91.symm
    have ge_b88 := hE.ge hs91
    replace hE := hE.nx he89
    refine RL.runs rfl rfl (h_store (vv := (.agg #[(.bool (decide (((Int.gcd zx zy : Nat) : Int) < 0))), vr83])) (cs := [(.bool (decide (((Int.gcd zx zy : Nat) : Int) < 0))), vr83]) (o := 0) ty42 rfl rfl rfl rfl (one_cons rfl (one_cons hr84.one one_nil)) hb90 (Nat.le_of_ble_eq_true rfl)) ?_
    rintro w92 ⟨hn93, hx94, hz95⟩
    replace hE := hE.nb hx94 ge_b88
    have nb_hx94 := (Nb.of hb90 (nu_cons rfl (nu_cons rfl nu_nil)))
    replace hb90 : Bk w92 b88 42 [(.bool (decide (((Int.gcd zx zy : Nat) : Int) < 0))), vr83] := hn93
    refine RL.nil (wsr ?_)
    replace hb4 := (hb4.ext (Ext.trans he82 he89)).exc hx94 (Nat.ne_of_lt (Nat.lt_trans lt_b2_b7 (Nat.lt_trans lt_b7_b12 (Nat.lt_trans lt_b12_b41 (Nat.lt_trans lt_b41_b53 lt_b53_b88)))))
    have hc96 := hb4.cells (o := 0) (cs := [(.bool sx), vx]) rfl
    refine rV (r_loada (o := 0) (cs := [(.bool sx), vx]) underlying42 ag42 ty42 rfl hc96) ?_
    have hc97 := hb90.cells (o := 0) (cs := [(.bool (decide (((Int.gcd zx zy : Nat) : Int) < 0))), vr83]) rfl
    refine rV (r_loada (o := 0) (cs := [(.bool (decide (((Int.gcd zx zy : Nat) : Int) < 0))), vr83]) underlying42 ag42 ty42 rfl hc97) ?_
    replace hx := (hx.tr (Sm.ext (Ext.trans he82 he89))).apn hx94 nb_hx94
    replace hr84 := (hr84.tr (Sm.ext he89)).apn hx94 nb_hx94
    refine RL.call rfl rfl (by decide) (r_call (vl := [(.agg #[(.bool sx), vx]), (.agg #[(.bool (decide (((Int.gcd zx zy : Nat) : Int) < 0))), vr83])]) ent84 rfl) (r02_divmod hx (by assumption) (by first | omega | simp) (show sg sx (val x) = zx from ex) hr84 (digs_lm _) (by first | omega | simp) (sg_canon _)) ?_
    rintro _ w98 ⟨⟨vq100, vr103, rfl, hq101, hl102, hr104, hl105⟩, he99⟩
    replace hq101 := hq101.fr hE
    replace hr104 := hr104.fr hE
    replace hE := hE.nx he99
    refine mV (v := (.tuple #[(.agg #[(.bool (decide ((zx / ((Int.gcd zx zy : Nat) : Int)) < 0))), vq100]), (.agg #[(.bool (decide ((modI zx ((Int.gcd zx zy : Nat) : Int)) < 0))), vr103]), (.bool (decide (((Int.gcd zx zy : Nat) : Int) ≠ 0)))])) rfl (rV (r_extract (v := (.agg #[(.bool (decide ((zx / ((Int.gcd zx zy : Nat) : Int)) < 0))), vq100])) rfl rfl) (rV (r_extract (v := (.agg #[(.bool (decide ((modI zx ((Int.gcd zx zy : Nat) : Int)) < 0))), vr103])) rfl rfl) (rV (r_extract (v := (.bool (decide (((Int.gcd zx zy : Nat) : Int) ≠ 0)))) rfl rfl) ?_)))
    refine rU (h_alloc (cs := [(.bool false), (.slice none 0 0)]) ty42 rfl) ?_
    rintro _ w106 ⟨b107, rfl, hs110, hb109, he108⟩
    replace hb90 := hb90.ext he99
    have lt_b88_b107 := Nat.lt_of_lt_of_eq hb90.lt hs110.symm
    have ge_b107 := hE.ge hs110
    replace hE := hE.nx he108
    refine rU (h_alloc (cs := [(.bool false), (.slice none 0 0)]) ty42 rfl) ?_
    rintro _ w111 ⟨b112, rfl, hs115, hb114, he113⟩
    have lt_b107_b112 := Nat.lt_of_lt_of_eq hb109.lt hs115.symm
    have ge_b112 := hE.ge hs115
    replace hE := hE.nx he113
    replace hb109 := hb109.ext he113
    refine RL.runs rfl rfl (h_store (vv := (.agg #[(.bool (decide ((zx / ((Int.gcd zx zy : Nat) : Int)) < 0))), vq100])) (cs := [(.bool (decide ((zx / ((Int.gcd zx zy : Nat) : Int)) < 0))), vq100]) (o := 0) ty42 rfl rfl rfl rfl (one_cons rfl (one_cons hq101.one one_nil)) hb109 (Nat.le_of_ble_eq_true rfl)) ?_
    rintro w116 ⟨hn117, hx118, hz119⟩
    replace hE := hE.nb hx118 ge_b107
    have nb_hx118 := (Nb.of hb109 (nu_cons rfl (nu_cons rfl nu_nil)))
    replace hb109 : Bk w116 b107 42 [(.bool (decide ((zx / ((Int.gcd zx zy : Nat) : Int)) < 0))), vq100] := hn117
    replace hb114 := hb114.exc hx118 (Nat.ne_of_gt lt_b107_b112)
    refine RL.runs rfl rfl (h_store (vv := (.agg #[(.bool (decide ((modI zx ((Int.gcd zx zy : Nat) : Int)) < 0))), vr103])) (cs := [(.bool (decide ((modI zx ((Int.gcd zx zy : Nat) : Int)) < 0))), vr103]) (o := 0) ty42 rfl rfl rfl rfl (one_cons rfl (one_cons hr104.one one_nil)) hb114 (Nat.le_of_ble_eq_true rfl)) ?_
    rintro w120 ⟨hn121, hx122, hz123⟩
    replace hE := hE.nb hx122 ge_b112
    have nb_hx122 := (Nb.of hb114 (nu_cons rfl (nu_cons rfl nu_nil)))
    replace hb114 : Bk w120 b112 42 [(.bool (decide ((modI zx ((Int.gcd zx zy : Nat) : Int)) < 0))), vr103] := hn121
    refine aS (v := (.bool (decide (((Int.gcd zx zy : Nat) : Int) ≠ 0)))) rfl (RL.nil (wsr ?_))
    have hm125 := Ext.trans he99 (Ext.trans he108 he113)
    replace hb9 := ((((hb9.ext (Ext.trans he82 he89)).exc hx94 (Nat.ne_of_lt (Nat.lt_trans lt_b7_b12 (Nat.lt_trans lt_b12_b41 (Nat.lt_trans lt_b41_b53 lt_b53_b88))))).ext hm125).exc hx118 (Nat.ne_of_lt (Nat.lt_trans lt_b7_b12 (Nat.lt_trans lt_b12_b41 (Nat.lt_trans lt_b41_b53 (Nat.lt_trans lt_b53_b88 lt_b88_b107)))))).exc hx122 (Nat.ne_of_lt (Nat.lt_trans lt_b7_b12 (Nat.lt_trans lt_b12_b41 (Nat.lt_trans lt_b41_b53 (Nat.lt_trans lt_b53_b88 (Nat.lt_trans lt_b88_b107 lt_b107_b112))))))
    have hc124 := hb9.cells (o := 0) (cs := [(.bool sy), vy]) rfl
    refine rV (r_loada (o := 0) (cs := [(.bool sy), vy]) underlying42 ag42 ty42 rfl hc124) ?_
    replace hb90 := ((hb90.ext (Ext.trans he108 he113)).exc hx118 (Nat.ne_of_lt lt_b88_b107)).exc hx122 (Nat.ne_of_lt (Nat.lt_trans lt_b88_b107 lt_b107_b112))
    have hc126 := hb90.cells (o := 0) (cs := [(.bool (decide (((Int.gcd zx zy : Nat) : Int) < 0))), vr83]) rfl
    refine rV (r_loada (o := 0) (cs := [(.bool (decide (((Int.gcd zx zy : Nat) : Int) < 0))), vr83]) underlying42 ag42 ty42 rfl hc126) ?_
    replace hy := ((((hy.tr (Sm.ext (Ext.trans he82 he89))).apn hx94 nb_hx94).tr (Sm.ext hm125)).apn hx118 nb_hx118).apn hx122 nb_hx122
    replace hr84 := ((hr84.tr (Sm.ext hm125)).apn hx118 nb_hx118).apn hx122 nb_hx122
    refine RL.call rfl rfl (by decide) (r_call (vl := [(.agg #[(.bool sy), vy]), (.agg #[(.bool (decide (((Int.gcd zx zy : Nat) : Int) < 0))), vr83])]) ent84 rfl) (r02_divmod hy (by assumption) (by first | omega | simp) (show sg sy (val y) = zy from ey) hr84 (digs_lm _) (by first | omega | simp) (sg_canon _)) ?_
    rintro _ w127 ⟨⟨vq129, vr132, rfl, hq130, hl131, hr133, hl134⟩, he128⟩
    replace hq130 := hq130.fr hE
    replace hr133 := hr133.fr hE
    replace hE := hE.nx he128
    refine mV (v := (.tuple #[(.agg #[(.bool (decide ((zy / ((Int.gcd zx zy : Nat) : Int)) < 0))), vq129]), (.agg #[(.bool (decide ((modI zy ((Int.gcd zx zy : Nat) : Int)) < 0))), vr132]), (.bool (decide (((Int.gcd zx zy : Nat) : Int) ≠ 0)))])) rfl (rV (r_extract (v := (.agg #[(.bool (decide ((zy / ((Int.gcd zx zy : Nat) : Int)) < 0))), vq129])) rfl rfl) (rV (r_extract (v := (.agg #[(.bool (decide ((modI zy ((Int.gcd zx zy : Nat) : Int)) < 0))), vr132])) rfl rfl) (rV (r_extract (v := (.bool (decide (((Int.gcd zx zy : Nat) : Int) ≠ 0)))) rfl rfl) ?_)))
    refine rU (h_alloc (cs := [(.bool false), (.slice none 0 0)]) ty42 rfl) ?_
    rintro _ w135 ⟨b136, rfl, hs139, hb138, he137⟩
    replace hb114 := hb114.ext he128
    have lt_b112_b136 := Nat.lt_of_lt_of_eq hb114.lt hs139.symm
    have ge_b136 := hE.ge hs139
    replace hE := hE.nx he137
    refine rU (h_alloc (cs := [(.bool false), (.slice none 0 0)]) ty42 rfl) ?_
    rintro _ w140 ⟨b141, rfl, hs144, hb143, he142⟩
    have lt_b136_b141 := Nat.lt_of_lt_of_eq hb138.lt hs144.symm
    have ge_b141 := hE.ge hs144
    replace hE := hE.nx he142
    replace hb138 := hb138.ext he142
    refine RL.runs rfl rfl (h_store (vv := (.agg #[(.bool (decide ((zy / ((Int.gcd zx zy : Nat) : Int)) < 0))), vq129])) (cs := [(.bool (decide ((zy / ((Int.gcd zx zy : Nat) : Int)) < 0))), vq129]) (o := 0) ty42 rfl rfl rfl rfl (one_cons rfl (one_cons hq130.one one_nil)) hb138 (Nat.le_of_ble_eq_true rfl)) ?_
    rintro w145 ⟨hn146, hx147, hz148⟩
    replace hE := hE.nb hx147 ge_b136
    have nb_hx147 := (Nb.of hb138 (nu_cons rfl (nu_cons rfl nu_nil)))
    replace hb138 : Bk w145 b136 42 [(.bool (decide ((zy / ((Int.gcd zx zy : Nat) : Int)) < 0))), vq129] := hn146
    replace hb143 := hb143.exc hx147 (Nat.ne_of_gt lt_b136_b141)
    refine RL.runs rfl rfl (h_store (vv := (.agg #[(.bool (decide ((modI zy ((Int.gcd zx zy : Nat) : Int)) < 0))), vr132])) (cs := [(.bool (decide ((modI zy ((Int.gcd zx zy : Nat) : Int)) < 0))), vr132]) (o := 0) ty42 rfl rfl rfl rfl (one_cons rfl (one_cons hr133.one one_nil)) hb143 (Nat.le_of_ble_eq_true rfl)) ?_
    rintro w149 ⟨hn150, hx151, hz152⟩
    replace hE := hE.nb hx151 ge_b141
    have nb_hx151 := (Nb.of hb143 (nu_cons rfl (nu_cons rfl nu_nil)))
    replace hb143 : Bk w149 b141 42 [(.bool (decide ((modI zy ((Int.gcd zx zy : Nat) : Int)) < 0))), vr132] := hn150
    refine aS (v := (.bool (decide (((Int.gcd zx zy : Nat) : Int) ≠ 0)))) rfl (RL.nil (wseq (wsr (rV (r_fieldAddr underlying42 rfl ty4 rfl) ?_))))
    replace hb138 := hb138.exc hx151 (Nat.ne_of_lt lt_b136_b141)
    have hc153 := hb138.cell (j := 0) (u := (.bool (decide ((zy / ((Int.gcd zx zy : Nat) : Int)) < 0)))) rfl
    refine rV (r_load underlying4 ag4 rfl hc153) (RL.nil ?_)
    refine wcond (b := decide ((zy / ((Int.gcd zx zy : Nat) : Int)) < 0)) rfl (fun hb154 => ?_) (fun hb154 => ?_)
    ·have hb154p := of_decide_eq_true hb154
     have hd := hb154p
     refine wdraw mixed fun w155 he156 => ?_
     replace hE := hE.nx he156
     have hm158 := Ext.trans he128 (Ext.trans he137 he142)
     replace hb109 := ((((hb109.exc hx122 (Nat.ne_of_lt lt_b107_b112)).ext hm158).exc hx147 (Nat.ne_of_lt (Nat.lt_trans lt_b107_b112 lt_b112_b136))).exc hx151 (Nat.ne_of_lt (Nat.lt_trans lt_b107_b112 (Nat.lt_trans lt_b112_b136 lt_b136_b141)))).ext he156
     have hc157 := hb109.cells (o := 0) (cs := [(.bool (decide ((zx / ((Int.gcd zx zy : Nat) : Int)) < 0))), vq100]) rfl
     refine RA.rd 0 rfl (by kernel_rfl) rfl rfl rfl (by decide) (Ext.refl _) (fun u hu => r_loada (o := 0) (cs := [(.bool (decide ((zx / ((Int.gcd zx zy : Nat) : Int)) < 0))), vq100]) underlying42 ag42 ty42 rfl (fun j v hj => cell_ext hu (hc157 j v hj))) ?_
     replace hb138 := hb138.ext he156
     have hc159 := hb138.cells (o := 0) (cs := [(.bool (decide ((zy / ((Int.gcd zx zy : Nat) : Int)) < 0))), vq129]) rfl
     refine RA.rd 2 rfl (by kernel_rfl) rfl rfl rfl (by decide) (Ext.refl _) (fun u hu => r_loada (o := 0) (cs := [(.bool (decide ((zy / ((Int.gcd zx zy : Nat) : Int)) < 0))), vq129]) underlying42 ag42 ty42 rfl (fun j v hj => cell_ext hu (hc159 j v hj))) ?_
     refine RA.all [1] (by kernel_rfl) rfl ?_
     replace hq101 := ((((((hq101.tr (Sm.ext (Ext.trans he108 he113))).apn hx118 nb_hx118).apn hx122 nb_hx122).tr (Sm.ext hm158)).apn hx147 nb_hx147).apn hx151 nb_hx151).tr (Sm.ext he156)
     refine RS.call rfl rfl rfl (by decide) (r_call (vl := [(.agg #[(.bool (decide ((zx / ((Int.gcd zx zy : Nat) : Int)) < 0))), vq100])]) ent85 rfl) (r02_neg hq101 (digs_lm _) (by first | omega | simp) (sg_canon _)) ?_ RS.nil
     rintro _ w160 ⟨⟨vr162, rfl, hr163, hl164⟩, he161⟩
     refine rm he161 ?_
     replace hr163 := hr163.fr hE
     replace hE := hE.nx he161
     refine RA.all [3] (by kernel_rfl) rfl ?_
     replace hq130 := (((hq130.tr (Sm.ext (Ext.trans he137 he142))).apn hx147 nb_hx147).apn hx151 nb_hx151).tr (Sm.ext (Ext.trans he156 he161))
     refine RS.call rfl rfl rfl (by decide) (r_call (vl := [(.agg #[(.bool (decide ((zy / ((Int.gcd zx zy : Nat) : Int)) < 0))), vq129])]) ent85 rfl) (r02_neg hq130 (digs_lm _) (by first | omega | simp) (sg_canon _)) ?_ RS.nil
     rintro _ w165 ⟨⟨vr167, rfl, hr168, hl169⟩, he166⟩
     refine rm he166 ?_
     replace hr168 := hr168.fr hE
     replace hE := hE.nx he166
     refine RA.all [4] (by kernel_rfl) rfl ?_
     replace hb109 := hb109.ext (Ext.trans he161 he166)
     refine RS.runs rfl rfl rfl (h_store (vv := (.agg #[(.bool (decide ((-(zx / ((Int.gcd zx zy : Nat) : Int))) < 0))), vr162])) (cs := [(.bool (decide ((-(zx / ((Int.gcd zx zy : Nat) : Int))) < 0))), vr162]) (o := 0) ty42 rfl rfl rfl rfl (one_cons rfl (one_cons hr163.one one_nil)) hb109 (Nat.le_of_ble_eq_true rfl)) ?_ RS.nil
     rintro w170 ⟨hn171, hx172, hz173⟩
     refine ⟨.inr (.inl (by kernel_rfl)), ?_⟩
     replace hE := hE.nb hx172 ge_b107
     have nb_hx172 := (Nb.of hb109 (nu_cons rfl (nu_cons hq101.nu nu_nil)))
     replace hb109 : Bk w170 b107 42 [(.bool (decide ((-(zx / ((Int.gcd zx zy : Nat) : Int))) < 0))), vr162] := hn171
     refine RA.all [5] (by kernel_rfl) rfl ?_
     replace hb138 := (hb138.ext (Ext.trans he161 he166)).exc hx172 (Nat.ne_of_gt (Nat.lt_trans lt_b107_b112 lt_b112_b136))
     refine RS.runs rfl rfl rfl (h_store (vv := (.agg #[(.bool (decide ((-(zy / ((Int.gcd zx zy : Nat) : Int))) < 0))), vr167])) (cs := [(.bool (decide ((-(zy / ((Int.gcd zx zy : Nat) : Int))) < 0))), vr167]) (o := 0) ty42 rfl rfl rfl rfl (one_cons rfl (one_cons hr168.one one_nil)) hb138 (Nat.le_of_ble_eq_true rfl)) ?_ RS.nil
     rintro w174 ⟨hn175, hx176, hz177⟩
     refine ⟨.inr (.inl (by kernel_rfl)), ?_⟩
     replace hE := hE.nb hx176 ge_b136
     have nb_hx176 := (Nb.of hb138 (nu_cons rfl (nu_cons hq130.nu nu_nil)))
     replace hb138 : Bk w174 b136 42 [(.bool (decide ((-(zy / ((Int.gcd zx zy : Nat) : Int))) < 0))), vr167] := hn175
     refine RA.done (by kernel_rfl) ?_
     refine wsr ?_
     replace hb109 := hb109.exc hx176 (Nat.ne_of_lt (Nat.lt_trans lt_b107_b112 lt_b112_b136))
     have hc178 := hb109.cells (o := 0) (cs := [(.bool (decide ((-(zx / ((Int.gcd zx zy : Nat) : Int))) < 0))), vr162]) rfl
     refine rV (r_loada (o := 0) (cs := [(.bool (decide ((-(zx / ((Int.gcd zx zy : Nat) : Int))) < 0))), vr162]) underlying42 ag42 ty42 rfl hc178) (rV (r_fieldAddr underlying42 rfl ty40 rfl) ?_)
     have hc179 := hb138.cell (j := 1) (u := vr167) rfl
     refine rV (r_load underlying40 ag40 rfl hc179) (rV (r_build (vl := [(0, (.agg #[(.bool (decide ((-(zx / ((Int.gcd zx zy : Nat) : Int))) < 0))), vr162])), (1, vr167)]) (cs := [(.bool (decide ((-(zx / ((Int.gcd zx zy : Nat) : Int))) < 0))), vr162, vr167]) underlying44 ty44 rfl (pl44 underlying44) (by obtain ⟨_, _, e0_, -, -⟩ := hr168.len; simp only [e0_]; rfl)) ?_)
     have hm184 := Ext.trans he54 (Ext.trans he58 (Ext.trans he82 he89))
     have hm185 := Ext.trans he156 (Ext.trans he161 he166)
     replace hb14 := ((((((((((((hb14.ext he42).exc hx47 (Nat.ne_of_lt lt_b12_b41)).ext hm184).exc hx94 (Nat.ne_of_lt (Nat.lt_trans lt_b12_b41 (Nat.lt_trans lt_b41_b53 lt_b53_b88)))).ext hm125).exc hx118 (Nat.ne_of_lt (Nat.lt_trans lt_b12_b41 (Nat.lt_trans lt_b41_b53 (Nat.lt_trans lt_b53_b88 lt_b88_b107))))).exc hx122 (Nat.ne_of_lt (Nat.lt_trans lt_b12_b41 (Nat.lt_trans lt_b41_b53 (Nat.lt_trans lt_b53_b88 (Nat.lt_trans lt_b88_b107 lt_b107_b112)))))).ext hm158).exc hx147 (Nat.ne_of_lt (Nat.lt_trans lt_b12_b41 (Nat.lt_trans lt_b41_b53 (Nat.lt_trans lt_b53_b88 (Nat.lt_trans lt_b88_b107 (Nat.lt_trans lt_b107_b112 lt_b112_b136))))))).exc hx151 (Nat.ne_of_lt (Nat.lt_trans lt_b12_b41 (Nat.lt_trans lt_b41_b53 (Nat.lt_trans lt_b53_b88 (Nat.lt_trans lt_b88_b107 (Nat.lt_trans lt_b107_b112 (Nat.lt_trans lt_b112_b136 lt_b136_b141)))))))).ext hm185).exc hx172 (Nat.ne_of_lt (Nat.lt_trans lt_b12_b41 (Nat.lt_trans lt_b41_b53 (Nat.lt_trans lt_b53_b88 lt_b88_b107))))).exc hx176 (Nat.ne_of_lt (Nat.lt_trans lt_b12_b41 (Nat.lt_trans lt_b41_b53 (Nat.lt_trans lt_b53_b88 (Nat.lt_trans lt_b88_b107 (Nat.lt_trans lt_b107_b112 lt_b112_b136))))))
     refine RL.runs rfl rfl (h_store (vv := (.agg #[(.bool (decide ((-(zx / ((Int.gcd zx zy : Nat) : Int))) < 0))), vr162, vr167])) (cs := [(.bool (decide ((-(zx / ((Int.gcd zx zy : Nat) : Int))) < 0))), vr162, vr167]) (o := 0) ty44 rfl rfl rfl rfl (one_cons rfl (one_cons hr163.one (one_cons hr168.one one_nil))) hb14 (Nat.le_of_ble_eq_true rfl)) ?_
     rintro w180 ⟨hn181, hx182, hz183⟩
     replace hE := hE.nb hx182 ge_b12
     have nb_hx182 := (Nb.of hb14 (nu_cons rfl (nu_cons rfl (nu_cons rfl nu_nil))))
     replace hb14 : Bk w180 b12 44 [(.bool (decide ((-(zx / ((Int.gcd zx zy : Nat) : Int))) < 0))), vr162, vr167] := hn181
     refine RL.nil ?_
     refine wret ?_
     refine ⟨[(.agg #[(.bool (decide ((-(zx / ((Int.gcd zx zy : Nat) : Int))) < 0))), vr162, vr167])], ⟨⟨_, _, [(.bool (decide ((-(zx / ((Int.gcd zx zy : Nat) : Int))) < 0))), vr162, vr167], rfl, ⟨_, underlying44⟩, hb14.cells rfl, .inl ⟨ag44, ⟨_, _, ty44⟩, rfl⟩⟩, trivial⟩, ?_⟩
     have e1 : (Rat.divInt zx zy).num = (-(zx / ((Int.gcd zx zy : Nat) : Int))) ∧ (Rat.divInt zx zy).den = (-(zy / ((Int.gcd zx zy : Nat) : Int))).natAbs := by
       first | (rw [hy1]; exact divInt_one zx) | exact hlaw.1 hd | exact hlaw.2 hd
     have hl1 := rl_num (a := zx) (b := zy)
     have hl2 := rl_den (a := zx) (b := zy)
     replace hr163 := (((hr163.tr (Sm.ext he166)).apn hx172 nb_hx172).apn hx176 nb_hx176).apn hx182 nb_hx182
     replace hr168 := ((hr168.apn hx172 nb_hx172).apn hx176 nb_hx176).apn hx182 nb_hx182
     exact ⟨⟨_, _, agg3 (by rw [e1.1]), by rw [e1.1]; exact hr163, by rw [e1.2]; exact hr168, by omega, by omega⟩, hE⟩
    ·have hb154p := of_decide_eq_false hb154
     have hd := hb154p
     refine wskip ?_
     refine wsr ?_
     have hm187 := Ext.trans he128 (Ext.trans he137 he142)
     replace hb109 := (((hb109.exc hx122 (Nat.ne_of_lt lt_b107_b112)).ext hm187).exc hx147 (Nat.ne_of_lt (Nat.lt_trans lt_b107_b112 lt_b112_b136))).exc hx151 (Nat.ne_of_lt (Nat.lt_trans lt_b107_b112 (Nat.lt_trans lt_b112_b136 lt_b136_b141)))
     have hc186 := hb109.cells (o := 0) (cs := [(.bool (decide ((zx / ((Int.gcd zx zy : Nat) : Int)) < 0))), vq100]) rfl
     refine rV (r_loada (o := 0) (cs := [(.bool (decide ((zx / ((Int.gcd zx zy : Nat) : Int)) < 0))), vq100]) underlying42 ag42 ty42 rfl hc186) (rV (r_fieldAddr underlying42 rfl ty40 rfl) ?_)
     have hc188 := hb138.cell (j := 1) (u := vq129) rfl
     refine rV (r_load underlying40 ag40 rfl hc188) (rV (r_build (vl := [(0, (.agg #[(.bool (decide ((zx / ((Int.gcd zx zy : Nat) : Int)) < 0))), vq100])), (1, vq129)]) (cs := [(.bool (decide ((zx / ((Int.gcd zx zy : Nat) : Int)) < 0))), vq100, vq129]) underlying44 ty44 rfl (pl44 underlying44) (by obtain ⟨_, _, e0_, -, -⟩ := hq130.len; simp only [e0_]; rfl)) ?_)
     have hm193 := Ext.trans he54 (Ext.trans he58 (Ext.trans he82 he89))
     replace hb14 := (((((((((hb14.ext he42).exc hx47 (Nat.ne_of_lt lt_b12_b41)).ext hm193).exc hx94 (Nat.ne_of_lt (Nat.lt_trans lt_b12_b41 (Nat.lt_trans lt_b41_b53 lt_b53_b88)))).ext hm125).exc hx118 (Nat.ne_of_lt (Nat.lt_trans lt_b12_b41 (Nat.lt_trans lt_b41_b53 (Nat.lt_trans lt_b53_b88 lt_b88_b107))))).exc hx122 (Nat.ne_of_lt (Nat.lt_trans lt_b12_b41 (Nat.lt_trans lt_b41_b53 (Nat.lt_trans lt_b53_b88 (Nat.lt_trans lt_b88_b107 lt_b107_b112)))))).ext hm187).exc hx147 (Nat.ne_of_lt (Nat.lt_trans lt_b12_b41 (Nat.lt_trans lt_b41_b53 (Nat.lt_trans lt_b53_b88 (Nat.lt_trans lt_b88_b107 (Nat.lt_trans lt_b107_b112 lt_b112_b136))))))).exc hx151 (Nat.ne_of_lt (Nat.lt_trans lt_b12_b41 (Nat.lt_trans lt_b41_b53 (Nat.lt_trans lt_b53_b88 (Nat.lt_trans lt_b88_b107 (Nat.lt_trans lt_b107_b112 (Nat.lt_trans lt_b112_b136 lt_b136_b141)))))))
     refine RL.runs rfl rfl (h_store (vv := (.agg #[(.bool (decide ((zx / ((Int.gcd zx zy : Nat) : Int)) < 0))), vq100, vq129])) (cs := [(.bool (decide ((zx / ((Int.gcd zx zy : Nat) : Int)) < 0))), vq100, vq129]) (o := 0) ty44 rfl rfl rfl rfl (one_cons rfl (one_cons hq101.one (one_cons hq130.one one_nil))) hb14 (Nat.le_of_ble_eq_true rfl)) ?_
     rintro w189 ⟨hn190, hx191, hz192⟩
     replace hE := hE.nb hx191 ge_b12
     have nb_hx191 := (Nb.of hb14 (nu_cons rfl (nu_cons rfl (nu_cons rfl nu_nil))))
     replace hb14 : Bk w189 b12 44 [(.bool (decide ((zx / ((Int.gcd zx zy : Nat) : Int)) < 0))), vq100, vq129] := hn190
     refine RL.nil ?_
     refine wret ?_
     refine ⟨[(.agg #[(.bool (decide ((zx / ((Int.gcd zx zy : Nat) : Int)) < 0))), vq100, vq129])], ⟨⟨_, _, [(.bool (decide ((zx / ((Int.gcd zx zy : Nat) : Int)) < 0))), vq100, vq129], rfl, ⟨_, underlying44⟩, hb14.cells rfl, .inl ⟨ag44, ⟨_, _, ty44⟩, rfl⟩⟩, trivial⟩, ?_⟩
     have e1 : (Rat.divInt zx zy).num = (zx / ((Int.gcd zx zy : Nat) : Int)) ∧ (Rat.divInt zx zy).den = (zy / ((Int.gcd zx zy : Nat) : Int)).natAbs := by
       first | (rw [hy1]; exact divInt_one zx) | exact hlaw.1 hd | exact hlaw.2 hd
     have hl1 := rl_num (a := zx) (b := zy)
     have hl2 := rl_den (a := zx) (b := zy)
     replace hq101 := ((((((hq101.tr (Sm.ext (Ext.trans he108 he113))).apn hx118 nb_hx118).apn hx122 nb_hx122).tr (Sm.ext hm187)).apn hx147 nb_hx147).apn hx151 nb_hx151).apn hx191 nb_hx191
     replace hq130 := (((hq130.tr (Sm.ext (Ext.trans he137 he142))).apn hx147 nb_hx147).apn hx151 nb_hx151).apn hx191 nb_hx191
     exact ⟨⟨_, _, agg3 (by rw [e1.1]), by rw [e1.1]; exact hq101, by rw [e1.2]; exact hq130, by omega, by omega⟩, hE⟩
  ·have hb50p := hb50
   refine RL.gno rfl rfl (bool_eq hb50) rfl (by decide) ?_
   refine RL.gno rfl rfl (bool_eq hb50) rfl (by decide) ?_
   refine RL.gno rfl rfl (bool_eq hb50) rfl (by decide) ?_
   refine RL.gno rfl rfl (bool_eq hb50) rfl (by decide) ?_
   refine rV (r_pick_f (v := (.bool false)) (bool_eq hb50) rfl) (RL.nil ?_)
   refine wcond_f rfl ?_
   refine wskip ?_
   refine wsr ?_
   have hm195 := Ext.trans he8 (Ext.trans he13 (Ext.trans he18 (Ext.trans he36 he42)))
   replace hb4 := (hb4.ext hm195).exc hx47 (Nat.ne_of_lt (Nat.lt_trans lt_b2_b7 (Nat.lt_trans lt_b7_b12 lt_b12_b41)))
   have hc194 := hb4.cells (o := 0) (cs := [(.bool sx), vx]) rfl
   refine rV (r_loada (o := 0) (cs := [(.bool sx), vx]) underlying42 ag42 ty42 rfl hc194) ?_
   replace hb9 := (hb9.ext (Ext.trans he36 he42)).exc hx47 (Nat.ne_of_lt (Nat.lt_trans lt_b7_b12 lt_b12_b41))
   have hc196 := hb9.cells (o := 0) (cs := [(.bool sy), vy]) rfl
   refine rV (r_loada (o := 0) (cs := [(.bool sy), vy]) underlying42 ag42 ty42 rfl hc196) ?_
   have hm202 := Ext.trans he3 (Ext.trans he8 (Ext.trans he13 (Ext.trans he18 (Ext.trans he36 he42))))
   replace hx := (hx.tr (Sm.ext hm202)).apn hx47 nb_hx47
   replace hy := (hy.tr (Sm.ext (Ext.trans he36 he42))).apn hx47 nb_hx47
   refine RL.call rfl rfl (by decide) (r_call (vl := [(.agg #[(.bool sx), vx]), (.agg #[(.bool sy), vy])]) ent83 rfl) (r02_gcd hx (by assumption) (by first | omega | simp) (show sg sx (val x) = zx from ex) hy (by assumption) (by first | omega | simp) (show sg sy (val y) = zy from ey)) ?_
   rintro _ w197 ⟨⟨vr199, rfl, hr200, hl201⟩, he198⟩
   replace hr200 := hr200.fr hE
   replace hE := hE.nx he198
   refine rU (h_alloc (cs := [(.bool false), (.slice none 0 0)]) ty42 rfl) ?_
   rintro _ w203 ⟨b204, rfl, hs207, hb206, he205⟩
   replace hb43 := hb43.ext he198
   have lt_b41_b204 := Nat.lt_of_lt_of_eq hb43.lt hs207.symm
   have ge_b204 := hE.ge hs207
   replace hE := hE.nx he205
   refine RL.runs rfl rfl (h_store (vv := (.agg #[(.bool (decide (((Int.gcd zx zy : Nat) : Int) < 0))), vr199])) (cs := [(.bool (decide (((Int.gcd zx zy : Nat) : Int) < 0))), vr199]) (o := 0) ty42 rfl rfl rfl rfl (one_cons rfl (one_cons hr200.one one_nil)) hb206 (Nat.le_of_ble_eq_true rfl)) ?_
   rintro w208 ⟨hn209, hx210, hz211⟩
   replace hE := hE.nb hx210 ge_b204
   have nb_hx210 := (Nb.of hb206 (nu_cons rfl (nu_cons rfl nu_nil)))
   replace hb206 : Bk w208 b204 42 [(.bool (decide (((Int.gcd zx zy : Nat) : Int) < 0))), vr199] := hn209
   refine RL.nil (wsr ?_)
   replace hb4 := (hb4.ext (Ext.trans he198 he205)).exc hx210 (Nat.ne_of_lt (Nat.lt_trans lt_b2_b7 (Nat.lt_trans lt_b7_b12 (Nat.lt_trans lt_b12_b41 lt_b41_b204))))
   have hc212 := hb4.cells (o := 0) (cs := [(.bool sx), vx]) rfl
   refine rV (r_loada (o := 0) (cs := [(.bool sx), vx]) underlying42 ag42 ty42 rfl hc212) ?_
   have hc213 := hb206.cells (o := 0) (cs := [(.bool (decide (((Int.gcd zx zy : Nat) : Int) < 0))), vr199]) rfl
   refine rV (r_loada (o := 0) (cs := [(.bool (decide (((Int.gcd zx zy : Nat) : Int) < 0))), vr199]) underlying42 ag42 ty42 rfl hc213) ?_
   replace hx := (hx.tr (Sm.ext (Ext.trans he198 he205))).apn hx210 nb_hx210
   replace hr200 := (hr200.tr (Sm.ext he205)).apn hx210 nb_hx210
   refine RL.call rfl rfl (by decide) (r_call (vl := [(.agg #[(.bool sx), vx]), (.agg #[(.bool (decide (((Int.gcd zx zy : Nat) : Int) < 0))), vr199])]) ent84 rfl) (r02_divmod hx (by assumption) (by first | omega | simp) (show sg sx (val x) = zx from ex) hr200 (digs_lm _) (by first | omega | simp) (sg_canon _)) ?_
   rintro _ w214 ⟨⟨vq216, vr219, rfl, hq217, hl218, hr220, hl221⟩, he215⟩
   replace hq217 := hq217.fr hE
   replace hr220 := hr220.fr hE
   replace hE := hE.nx he215
   refine mV (v := (.tuple #[(.agg #[(.bool (decide ((zx / ((Int.gcd zx zy : Nat) : Int)) < 0))), vq216]), (.agg #[(.bool (decide ((modI zx ((Int.gcd zx zy : Nat) : Int)) < 0))), vr219]), (.bool (decide (((Int.gcd zx zy : Nat) : Int) ≠ 0)))])) rfl (rV (r_extract (v := (.agg #[(.bool (decide ((zx / ((Int.gcd zx zy : Nat) : Int)) < 0))), vq216])) rfl rfl) (rV (r_extract (v := (.agg #[(.bool (decide ((modI zx ((Int.gcd zx zy : Nat) : Int)) < 0))), vr219])) rfl rfl) (rV (r_extract (v := (.bool (decide (((Int.gcd zx zy : Nat) : Int) ≠ 0)))) rfl rfl) ?_)))
   refine rU (h_alloc (cs := [(.bool false), (.slice none 0 0)]) ty42 rfl) ?_
   rintro _ w222 ⟨b223, rfl, hs226, hb225, he224⟩
   replace hb206 := hb206.ext he215
   have lt_b204_b223 := Nat.lt_of_lt_of_eq hb206.lt hs226.symm
   have ge_b223 := hE.ge hs226
   replace hE := hE.nx he224
   refine rU (h_alloc (cs := [(.bool false), (.slice none 0 0)]) ty42 rfl) ?_
   rintro _ w227 ⟨b228, rfl, hs231, hb230, he229⟩
   have lt_b223_b228 := Nat.lt_of_lt_of_eq hb225.lt hs231.symm
   have ge_b228 := hE.ge hs231
   replace hE := hE.nx he229
   replace hb225 := hb225.ext he229
   refine RL.runs rfl rfl (h_store (vv := (.agg #[(.bool (decide ((zx / ((Int.gcd zx zy : Nat) : Int)) < 0))), vq216])) (cs := [(.bool (decide ((zx / ((Int.gcd zx zy : Nat) : Int)) < 0))), vq216]) (o := 0) ty42 rfl rfl rfl rfl (one_cons rfl (one_cons hq217.one one_nil)) hb225 (Nat.le_of_ble_eq_true rfl)) ?_
   rintro w232 ⟨hn233, hx234, hz235⟩
   replace hE := hE.nb hx234 ge_b223
   have nb_hx234 := (Nb.of hb225 (nu_cons rfl (nu_cons rfl nu_nil)))
   replace hb225 : Bk w232 b223 42 [(.bool (decide ((zx / ((Int.gcd zx zy : Nat) : Int)) < 0))), vq216] := hn233
   replace hb230 := hb230.exc hx234 (Nat.ne_of_gt lt_b223_b228)
   refine RL.runs rfl rfl (h_store (vv := (.agg #[(.bool (decide ((modI zx ((Int.gcd zx zy : Nat) : Int)) < 0))), vr219])) (cs := [(.bool (decide ((modI zx ((Int.gcd zx zy : Nat) : Int)) < 0))), vr219]) (o := 0) ty42 rfl rfl rfl rfl (one_cons rfl (one_cons hr220.one one_nil)) hb230 (Nat.le_of_ble_eq_true rfl)) ?_
   rintro w236 ⟨hn237, hx238, hz239⟩
   replace hE := hE.nb hx238 ge_b228
   have nb_hx238 := (Nb.of hb230 (nu_cons rfl (nu_cons rfl nu_nil)))
   replace hb230 : Bk w236 b228 42 [(.bool (decide ((modI zx ((Int.gcd zx zy : Nat) : Int)) < 0))), vr219] := hn237
   refine aS (v := (.bool (decide (((Int.gcd zx zy : Nat) : Int) ≠ 0)))) rfl (RL.nil (wsr ?_))
   have hm241 := Ext.trans he215 (Ext.trans he224 he229)
   replace hb9 := ((((hb9.ext (Ext.trans he198 he205)).exc hx210 (Nat.ne_of_lt (Nat.lt_trans lt_b7_b12 (Nat.lt_trans lt_b12_b41 lt_b41_b204)))).ext hm241).exc hx234 (Nat.ne_of_lt (Nat.lt_trans lt_b7_b12 (Nat.lt_trans lt_b12_b41 (Nat.lt_trans lt_b41_b204 lt_b204_b223))))).exc hx238 (Nat.ne_of_lt (Nat.lt_trans lt_b7_b12 (Nat.lt_trans lt_b12_b41 (Nat.lt_trans lt_b41_b204 (Nat.lt_trans lt_b204_b223 lt_b223_b228)))))
   have hc240 := hb9.cells (o := 0) (cs := [(.bool sy), vy]) rfl
   refine rV (r_loada (o := 0) (cs := [(.bool sy), vy]) underlying42 ag42 ty42 rfl hc240) ?_
   replace hb206 := ((hb206.ext (Ext.trans he224 he229)).exc hx234 (Nat.ne_of_lt lt_b204_b223)).exc hx238 (Nat.ne_of_lt (Nat.lt_trans lt_b204_b223 lt_b223_b228))
   have hc242 := hb206.cells (o := 0) (cs := [(.bool (decide (((Int.gcd zx zy : Nat) : Int) < 0))), vr199]) rfl
   refine rV (r_loada (o := 0) (cs := [(.bool (decide (((Int.gcd zx zy : Nat) : Int) < 0))), vr199]) underlying42 ag42 ty42 rfl hc242) ?_
   replace hy := ((((hy.tr (Sm.ext (Ext.trans he198 he205))).apn hx210 nb_hx210).tr (Sm.ext hm241)).apn hx234 nb_hx234).apn hx238 nb_hx238
   replace hr200 := ((hr200.tr (Sm.ext hm241)).apn hx234 nb_hx234).apn hx238 nb_hx238
   refine RL.call rfl rfl (by decide) (r_call (vl := [(.agg #[(.bool sy), vy]), (.agg #[(.bool (decide (((Int.gcd zx zy : Nat) : Int) < 0))), vr199])]) ent84 rfl) (r02_divmod hy (by assumption) (by first | omega | simp) (show sg sy (val y) = zy from ey) hr200 (digs_lm _) (by first | omega | simp) (sg_canon _)) ?_
   rintro _ w243 ⟨⟨vq245, vr248, rfl, hq246, hl247, hr249, hl250⟩, he244⟩
   replace hq246 := hq246.fr hE
   replace hr249 := hr249.fr hE
   replace hE := hE.nx he244
   refine mV (v := (.tuple #[(.agg #[(.bool (decide ((zy / ((Int.gcd zx zy : Nat) : Int)) < 0))), vq245]), (.agg #[(.bool (decide ((modI zy ((Int.gcd zx zy : Nat) : Int)) < 0))), vr248]), (.bool (decide (((Int.gcd zx zy : Nat) : Int) ≠ 0)))])) rfl (rV (r_extract (v := (.agg #[(.bool (decide ((zy / ((Int.gcd zx zy : Nat) : Int)) < 0))), vq245])) rfl rfl) (rV (r_extract (v := (.agg #[(.bool (decide ((modI zy ((Int.gcd zx zy : Nat) : Int)) < 0))), vr248])) rfl rfl) (rV (r_extract (v := (.bool (decide (((Int.gcd zx zy : Nat) : Int) ≠ 0)))) rfl rfl) ?_)))
   refine rU (h_alloc (cs := [(.bool false), (.slice none 0 0)]) ty42 rfl) ?_
   rintro _ w251 ⟨b252, rfl, hs255, hb254, he253⟩
   replace hb230 := hb230.ext he244
   have lt_b228_b252 := Nat.lt_of_lt_of_eq hb230.lt hs255.symm
   have ge_b252 := hE.ge hs255
   replace hE := hE.nx he253
   refine rU (h_alloc (cs := [(.bool false), (.slice none 0 0)]) ty42 rfl) ?_
   rintro _ w256 ⟨b257, rfl, hs260, hb259, he258⟩
   have lt_b252_b257 := Nat.lt_of_lt_of_eq hb254.lt hs260.symm
   have ge_b257 := hE.ge hs260
   replace hE := hE.nx he258
   replace hb254 := hb254.ext he258
   refine RL.runs rfl rfl (h_store (vv := (.agg #[(.bool (decide ((zy / ((Int.gcd zx zy : Nat) : Int)) < 0))), vq245])) (cs := [(.bool (decide ((zy / ((Int.gcd zx zy : Nat) : Int)) < 0))), vq245]) (o := 0) ty42 rfl rfl rfl rfl (one_cons rfl (one_cons hq246.one one_nil)) hb254 (Nat.le_of_ble_eq_true rfl)) ?_
   rintro w261 ⟨hn262, hx263, hz264⟩
   replace hE := hE.nb hx263 ge_b252
   have nb_hx263 := (Nb.of hb254 (nu_cons rfl (nu_cons rfl nu_nil)))
   replace hb254 : Bk w261 b252 42 [(.bool (decide ((zy / ((Int.gcd zx zy : Nat) : Int)) < 0))), vq245] := hn262
   replace hb259 := hb259.exc hx263 (Nat.ne_of_gt lt_b252_b257)
   refine RL.runs rfl rfl (h_store (vv := (.agg #[(.bool (decide ((modI zy ((Int.gcd zx zy : Nat) : Int)) < 0))), vr248])) (cs := [(.bool (decide ((modI zy ((Int.gcd zx zy : Nat) : Int)) < 0))), vr248]) (o := 0) ty42 rfl rfl rfl rfl (one_cons rfl (one_cons hr249.one one_nil)) hb259 (Nat.le_of_ble_eq_true rfl)) ?_
   rintro w265 ⟨hn266, hx267, hz268⟩
   replace hE := hE.nb hx267 ge_b257
   have nb_hx267 := (Nb.of hb259 (nu_cons rfl (nu_cons rfl nu_nil)))
   replace hb259 : Bk w265 b257 42 [(.bool (decide ((modI zy ((Int.gcd zx zy : Nat) : Int)) < 0))), vr248] := hn266
   refine aS (v := (.bool (decide (((Int.gcd zx zy : Nat) : Int) ≠ 0)))) rfl (RL.nil (wseq (wsr (rV (r_fieldAddr underlying42 rfl ty4 rfl) ?_))))
   replace hb254 := hb254.exc hx267 (Nat.ne_of_lt lt_b252_b257)
   have hc269 := hb254.cell (j := 0) (u := (.bool (decide ((zy / ((Int.gcd zx zy : Nat) : Int)) < 0)))) rfl
   refine rV (r_load underlying4 ag4 rfl hc269) (RL.nil ?_)
   refine wcond (b := decide ((zy / ((Int.gcd zx zy : Nat) : Int)) < 0)) rfl (fun hb270 => ?_) (fun hb270 => ?_)
   ·have hb270p := of_decide_eq_true hb270
    have hd := hb270p
    refine wdraw mixed fun w271 he272 => ?_
    replace hE := hE.nx he272
    have hm274 := Ext.trans he244 (Ext.trans he253 he258)
    replace hb225 := ((((hb225.exc hx238 (Nat.ne_of_lt lt_b223_b228)).ext hm274).exc hx263 (Nat.ne_of_lt (Nat.lt_trans lt_b223_b228 lt_b228_b252))).exc hx267 (Nat.ne_of_lt (Nat.lt_trans lt_b223_b228 (Nat.lt_trans lt_b228_b252 lt_b252_b257)))).ext he272
    have hc273 := hb225.cells (o := 0) (cs := [(.bool (decide ((zx / ((Int.gcd zx zy : Nat) : Int)) < 0))), vq216]) rfl
    refine RA.rd 0 rfl (by kernel_rfl) rfl rfl rfl (by decide) (Ext.refl _) (fun u hu => r_loada (o := 0) (cs := [(.bool (decide ((zx / ((Int.gcd zx zy : Nat) : Int)) < 0))), vq216]) underlying42 ag42 ty42 rfl (fun j v hj => cell_ext hu (hc273 j v hj))) ?_
    replace hb254 := hb254.ext he272
    have hc275 := hb254.cells (o := 0) (cs := [(.bool (decide ((zy / ((Int.gcd zx zy : Nat) : Int)) < 0))), vq245]) rfl
    refine RA.rd 2 rfl (by kernel_rfl) rfl rfl rfl (by decide) (Ext.refl _) (fun u hu => r_loada (o := 0) (cs := [(.bool (decide ((zy / ((Int.gcd zx zy : Nat) : Int)) < 0))), vq245]) underlying42 ag42 ty42 rfl (fun j v hj => cell_ext hu (hc275 j v hj))) ?_
    refine RA.all [1] (by kernel_rfl) rfl ?_
    replace hq217 := ((((((hq217.tr (Sm.ext (Ext.trans he224 he229))).apn hx234 nb_hx234).apn hx238 nb_hx238).tr (Sm.ext hm274)).apn hx263 nb_hx263).apn hx267 nb_hx267).tr (Sm.ext he272)
    refine RS.call rfl rfl rfl (by decide) (r_call (vl := [(.agg #[(.bool (decide ((zx / ((Int.gcd zx zy : Nat) : Int)) < 0))), vq216])]) ent85 rfl) (r02_neg hq217 (digs_lm _) (by first | omega | simp) (sg_canon _)) ?_ RS.nil
    rintro _ w276 ⟨⟨vr278, rfl, hr279, hl280⟩, he277⟩
    refine rm he277 ?_
    replace hr279 := hr279.fr hE
    replace hE := hE.nx he277
    refine RA.all [3] (by kernel_rfl) rfl ?_
    replace hq246 := (((hq246.tr (Sm.ext (Ext.trans he253 he258))).apn hx263 nb_hx263).apn hx267 nb_hx267).tr (Sm.ext (Ext.trans he272 he277))
    refine RS.call rfl rfl rfl (by decide) (r_call (vl := [(.agg #[(.bool (decide ((zy / ((Int.gcd zx zy : Nat) : Int)) < 0))), vq245])]) ent85 rfl) (r02_neg hq246 (digs_lm _) (by first | omega | simp) (sg_canon _)) ?_ RS.nil
    rintro _ w281 ⟨⟨vr283, rfl, hr284, hl285⟩, he282⟩
    refine rm he282 ?_
    replace hr284 := hr284.fr hE
    replace hE := hE.nx he282
    refine RA.all [4] (by kernel_rfl) rfl ?_
    replace hb225 := hb225.ext (Ext.trans he277 he282)
    refine RS.runs rfl rfl rfl (h_store (vv := (.agg #[(.bool (decide ((-(zx / ((Int.gcd zx zy : Nat) : Int))) < 0))), vr278])) (cs := [(.bool (decide ((-(zx / ((Int.gcd zx zy : Nat) : Int))) < 0))), vr278]) (o := 0) ty42 rfl rfl rfl rfl (one_cons rfl (one_cons hr279.one one_nil)) hb225 (Nat.le_of_ble_eq_true rfl)) ?_ RS.nil
    rintro w286 ⟨hn287, hx288, hz289⟩
    refine ⟨.inr (.inl (by kernel_rfl)), ?_⟩
    replace hE := hE.nb hx288 ge_b223
    have nb_hx288 := (Nb.of hb225 (nu_cons rfl (nu_cons hq217.nu nu_nil)))
    replace hb225 : Bk w286 b223 42 [(.bool (decide ((-(zx / ((Int.gcd zx zy : Nat) : Int))) < 0))), vr278] := hn287
    refine RA.all [5] (by kernel_rfl) rfl ?_
    replace hb254 := (hb254.ext (Ext.trans he277 he282)).exc hx288 (Nat.ne_of_gt (Nat.lt_trans lt_b223_b228 lt_b228_b252))
    refine RS.runs rfl rfl rfl (h_store (vv := (.agg #[(.bool (decide ((-(zy / ((Int.gcd zx zy : Nat) : Int))) < 0))), vr283])) (cs := [(.bool (decide ((-(zy / ((Int.gcd zx zy : Nat) : Int))) < 0))), vr283]) (o := 0) ty42 rfl rfl rfl rfl (one_cons rfl (one_cons hr284.one one_nil)) hb254 (Nat.le_of_ble_eq_true rfl)) ?_ RS.nil
    rintro w290 ⟨hn291, hx292, hz293⟩
    refine ⟨.inr (.inl (by kernel_rfl)), ?_⟩
    replace hE := hE.nb hx292 ge_b252
    have nb_hx292 := (Nb.of hb254 (nu_cons rfl (nu_cons hq246.nu nu_nil)))
    replace hb254 : Bk w290 b252 42 [(.bool (decide ((-(zy / ((Int.gcd zx zy : Nat) : Int))) < 0))), vr283] := hn291
    refine RA.done (by kernel_rfl) ?_
    refine wsr ?_
    replace hb225 := hb225.exc hx292 (Nat.ne_of_lt (Nat.lt_trans lt_b223_b228 lt_b228_b252))
    have hc294 := hb225.cells (o := 0) (cs := [(.bool (decide ((-(zx / ((Int.gcd zx zy : Nat) : Int))) < 0))), vr278]) rfl
    refine rV (r_loada (o := 0) (cs := [(.bool (decide ((-(zx / ((Int.gcd zx zy : Nat) : Int))) < 0))), vr278]) underlying42 ag42 ty42 rfl hc294) (rV (r_fieldAddr underlying42 rfl ty40 rfl) ?_)
    have hc295 := hb254.cell (j := 1) (u := vr283) rfl
    refine rV (r_load underlying40 ag40 rfl hc295) (rV (r_build (vl := [(0, (.agg #[(.bool (decide ((-(zx / ((Int.gcd zx zy : Nat) : Int))) < 0))), vr278])), (1, vr283)]) (cs := [(.bool (decide ((-(zx / ((Int.gcd zx zy : Nat) : Int))) < 0))), vr278, vr283]) underlying44 ty44 rfl (pl44 underlying44) (by obtain ⟨_, _, e0_, -, -⟩ := hr284.len; simp only [e0_]; rfl)) ?_)
    have hm300 := Ext.trans he272 (Ext.trans he277 he282)
    replace hb14 := ((((((((((((hb14.ext he42).exc hx47 (Nat.ne_of_lt lt_b12_b41)).ext (Ext.trans he198 he205)).exc hx210 (Nat.ne_of_lt (Nat.lt_trans lt_b12_b41 lt_b41_b204))).ext hm241).exc hx234 (Nat.ne_of_lt (Nat.lt_trans lt_b12_b41 (Nat.lt_trans lt_b41_b204 lt_b204_b223)))).exc hx238 (Nat.ne_of_lt (Nat.lt_trans lt_b12_b41 (Nat.lt_trans lt_b41_b204 (Nat.lt_trans lt_b204_b223 lt_b223_b228))))).ext hm274).exc hx263 (Nat.ne_of_lt (Nat.lt_trans lt_b12_b41 (Nat.lt_trans lt_b41_b204 (Nat.lt_trans lt_b204_b223 (Nat.lt_trans lt_b223_b228 lt_b228_b252)))))).exc hx267 (Nat.ne_of_lt (Nat.lt_trans lt_b12_b41 (Nat.lt_trans lt_b41_b204 (Nat.lt_trans lt_b204_b223 (Nat.lt_trans lt_b223_b228 (Nat.lt_trans lt_b228_b252 lt_b252_b257))))))).ext hm300).exc hx288 (Nat.ne_of_lt (Nat.lt_trans lt_b12_b41 (Nat.lt_trans lt_b41_b204 lt_b204_b223)))).exc hx292 (Nat.ne_of_lt (Nat.lt_trans lt_b12_b41 (Nat.lt_trans lt_b41_b204 (Nat.lt_trans lt_b204_b223 (Nat.lt_trans lt_b223_b228 lt_b228_b252)))))
    refine RL.runs rfl rfl (h_store (vv := (.agg #[(.bool (decide ((-(zx / ((Int.gcd zx zy : Nat) : Int))) < 0))), vr278, vr283])) (cs := [(.bool (decide ((-(zx / ((Int.gcd zx zy : Nat) : Int))) < 0))), vr278, vr283]) (o := 0) ty44 rfl rfl rfl rfl (one_cons rfl (one_cons hr279.one (one_cons hr284.one one_nil))) hb14 (Nat.le_of_ble_eq_true rfl)) ?_
    rintro w296 ⟨hn297, hx298, hz299⟩
    replace hE := hE.nb hx298 ge_b12
    have nb_hx298 := (Nb.of hb14 (nu_cons rfl (nu_cons rfl (nu_cons rfl nu_nil))))
    replace hb14 : Bk w296 b12 44 [(.bool (decide ((-(zx / ((Int.gcd zx zy : Nat) : Int))) < 0))), vr278, vr283] := hn297
    refine RL.nil ?_
    refine wret ?_
    refine ⟨[(.agg #[(.bool (decide ((-(zx / ((Int.gcd zx zy : Nat) : Int))) < 0))), vr278, vr283])], ⟨⟨_, _, [(.bool (decide ((-(zx / ((Int.gcd zx zy : Nat) : Int))) < 0))), vr278, vr283], rfl, ⟨_, underlying44⟩, hb14.cells rfl, .inl ⟨ag44, ⟨_, _, ty44⟩, rfl⟩⟩, trivial⟩, ?_⟩
    have e1 : (Rat.divInt zx zy).num = (-(zx / ((Int.gcd zx zy : Nat) : Int))) ∧ (Rat.divInt zx zy).den = (-(zy / ((Int.gcd zx zy : Nat) : Int))).natAbs := by
      first | (rw [hy1]; exact divInt_one zx) | exact hlaw.1 hd | exact hlaw.2 hd
    have hl1 := rl_num (a := zx) (b := zy)
    have hl2 := rl_den (a := zx) (b := zy)
    replace hr279 := (((hr279.tr (Sm.ext he282)).apn hx288 nb_hx288).apn hx292 nb_hx292).apn hx298 nb_hx298
    replace hr284 := ((hr284.apn hx288 nb_hx288).apn hx292 nb_hx292).apn hx298 nb_hx298
    exact ⟨⟨_, _, agg3 (by rw [e1.1]), by rw [e1.1]; exact hr279, by rw [e1.2]; exact hr284, by omega, by omega⟩, hE⟩
   ·have hb270p := of_decide_eq_false hb270
    have hd := hb270p
    refine wskip ?_
    refine wsr ?_
    have hm302 := Ext.trans he244 (Ext.trans he253 he258)
    replace hb225 := (((hb225.exc hx238 (Nat.ne_of_lt lt_b223_b228)).ext hm302).exc hx263 (Nat.ne_of_lt (Nat.lt_trans lt_b223_b228 lt_b228_b252))).exc hx267 (Nat.ne_of_lt (Nat.lt_trans lt_b223_b228 (Nat.lt_trans lt_b228_b252 lt_b252_b257)))
    have hc301 := hb225.cells (o := 0) (cs := [(.bool (decide ((zx / ((Int.gcd zx zy : Nat) : Int)) < 0))), vq216]) rfl
    refine rV (r_loada (o := 0) (cs := [(.bool (decide ((zx / ((Int.gcd zx zy : Nat) : Int)) < 0))), vq216]) underlying42 ag42 ty42 rfl hc301) (rV (r_fieldAddr underlying42 rfl ty40 rfl) ?_)
    have hc303 := hb254.cell (j := 1) (u := vq245) rfl
    refine rV (r_load underlying40 ag40 rfl hc303) (rV (r_build (vl := [(0, (.agg #[(.bool (decide ((zx / ((Int.gcd zx zy : Nat) : Int)) < 0))), vq216])), (1, vq245)]) (cs := [(.bool (decide ((zx / ((Int.gcd zx zy : Nat) : Int)) < 0))), vq216, vq245]) underlying44 ty44 rfl (pl44 underlying44) (by obtain ⟨_, _, e0_, -, -⟩ := hq246.len; simp only [e0_]; rfl)) ?_)
    replace hb14 := (((((((((hb14.ext he42).exc hx47 (Nat.ne_of_lt lt_b12_b41)).ext (Ext.trans he198 he205)).exc hx210 (Nat.ne_of_lt (Nat.lt_trans lt_b12_b41 lt_b41_b204))).ext hm241).exc hx234 (Nat.ne_of_lt (Nat.lt_trans lt_b12_b41 (Nat.lt_trans lt_b41_b204 lt_b204_b223)))).exc hx238 (Nat.ne_of_lt (Nat.lt_trans lt_b12_b41 (Nat.lt_trans lt_b41_b204 (Nat.lt_trans lt_b204_b223 lt_b223_b228))))).ext hm302).exc hx263 (Nat.ne_of_lt (Nat.lt_trans lt_b12_b41 (Nat.lt_trans lt_b41_b204 (Nat.lt_trans lt_b204_b223 (Nat.lt_trans lt_b223_b228 lt_b228_b252)))))).exc hx267 (Nat.ne_of_lt (Nat.lt_trans lt_b12_b41 (Nat.lt_trans lt_b41_b204 (Nat.lt_trans lt_b204_b223 (Nat.lt_trans lt_b223_b228 (Nat.lt_trans lt_b228_b252 lt_b252_b257))))))
    refine RL.runs rfl rfl (h_store (vv := (.agg #[(.bool (decide ((zx / ((Int.gcd zx zy : Nat) : Int)) < 0))), vq216, vq245])) (cs := [(.bool (decide ((zx / ((Int.gcd zx zy : Nat) : Int)) < 0))), vq216, vq245]) (o := 0) ty44 rfl rfl rfl rfl (one_cons rfl (one_cons hq217.one (one_cons hq246.one one_nil))) hb14 (Nat.le_of_ble_eq_true rfl)) ?_
    rintro w304 ⟨hn305, hx306, hz307⟩
    replace hE := hE.nb hx306 ge_b12
    have nb_hx306 := (Nb.of hb14 (nu_cons rfl (nu_cons rfl (nu_cons rfl nu_nil))))
    replace hb14 : Bk w304 b12 44 [(.bool (decide ((zx / ((Int.gcd zx zy : Nat) : Int)) < 0))), vq216, vq245] := hn305
    refine RL.nil ?_
    refine wret ?_
    refine ⟨[(.agg #[(.bool (decide ((zx / ((Int.gcd zx zy : Nat) : Int)) < 0))), vq216, vq245])], ⟨⟨_, _, [(.bool (decide ((zx / ((Int.gcd zx zy : Nat) : Int)) < 0))), vq216, vq245], rfl, ⟨_, underlying44⟩, hb14.cells rfl, .inl ⟨ag44, ⟨_, _, ty44⟩, rfl⟩⟩, trivial⟩, ?_⟩
    have e1 : (Rat.divInt zx zy).num = (zx / ((Int.gcd zx zy : Nat) : Int)) ∧ (Rat.divInt zx zy).den = (zy / ((Int.gcd zx zy : Nat) : Int)).natAbs := by
      first | (rw [hy1]; exact divInt_one zx) | exact hlaw.1 hd | exact hlaw.2 hd
    have hl1 := rl_num (a := zx) (b := zy)
    have hl2 := rl_den (a := zx) (b := zy)
    replace hq217 := ((((((hq217.tr (Sm.ext (Ext.trans he224 he229))).apn hx234 nb_hx234).apn hx238 nb_hx238).tr (Sm.ext hm302)).apn hx263 nb_hx263).apn hx267 nb_hx267).apn hx306 nb_hx306
    replace hq246 := (((hq246.tr (Sm.ext (Ext.trans he253 he258))).apn hx263 nb_hx263).apn hx267 nb_hx267).apn hx306 nb_hx306
    exact ⟨⟨_, _, agg3 (by rw [e1.1]), by rw [e1.1]; exact hq217, by rw [e1.2]; exact hq246, by omega, by omega⟩, hE⟩
set_option maxHeartbeats 1000000 in
theorem r03_norm {w : World} {sx : Bool} {Dx Ex : Nat → TypeId → Prop} {vx ux : Value} {x dx : List Nat} (hx : Sg (gN .u32) Dx w vx x) (lmx : Lm x) (lnx : x.length ≤ 17179869184) (hdx : Sg (gN .u32) Ex w ux dx) (lmdx : Lm dx) (lndx : dx.length ≤ 17179869184) {qx : Rat} (ex : ratOf sx (val x) (val dx) = qx) :
    Calls Tryz.prog 58 #[(.agg #[(.bool sx), vx, ux])] w fun e w' => ∃ v, e = .returned v ∧ (∃ vn vd, v = .agg #[.bool (decide (qx.num < 0)), vn, vd] ∧ Sg (gN .u32) (fun b T => w.heap.size ≤ b ∧ T = 96) w' vn (digs qx.num.natAbs) ∧ Sg (gN .u32) (fun b T => w.heap.size ≤ b ∧ T = 96) w' vd (digs qx.den) ∧ (digs qx.num.natAbs).length ≤ x.length ∧ (digs qx.den).length ≤ dx.length + 1) ∧ Ext w w' := by
 have hE : Below w.heap.size w w := Below.refl _ _
 have hlqx := rl_of lmx lmdx ex
 have hdqx := den_one qx
 refine calls_of (n := 9) (rs := [.cell 2 44]) func58 rfl rfl rfl (Nat.le_of_ble_eq_true rfl) ?_
 refine wset fun F0 hF0 => ?_
 refine wsr ?_
 refine rU (h_box (vv := (.agg #[(.bool sx), vx, ux])) (cs := [(.bool sx), vx, ux]) (hF0 0) rfl) ?_
 rintro _ w1 ⟨b2, rfl, hs5, hb4, he3⟩
 have ge_b2 := hE.ge hs5
 replace hE := hE.nx he3
 refine rU (h_alloc (cs := [(.bool false), (.slice none 0 0), (.slice none 0 0)]) ty44 rfl) ?_
 rintro _ w6 ⟨b7, rfl, hs10, hb9, he8⟩
 have lt_b2_b7 := Nat.lt_of_lt_of_eq hb4.lt hs10.symm
 have ge_b7 := hE.ge hs10
 replace hE := hE.nx he8
 refine RL.nil (wsr (rV (r_fieldAddr underlying44 rfl ty42 rfl) ?_))
 replace hb4 := hb4.ext he8
 have hc11 := hb4.cells (o := 0) (cs := [(.bool sx), vx]) rfl
 refine rV (r_loada (o := 0) (cs := [(.bool sx), vx]) underlying42 ag42 ty42 rfl hc11) (rV (r_fieldAddr underlying44 rfl ty40 rfl) ?_)
 have hc12 := hb4.cell (j := 2) (u := ux) rfl
 refine rV (r_load underlying40 ag40 rfl hc12) (rV (r_build (vl := [(1, ux)]) (cs := [(.bool false), ux]) underlying42 ty42 rfl (pl42 underlying42) (by obtain ⟨_, _, e0_, -, -⟩ := hdx.len; simp only [e0_]; rfl)) ?_)
 replace hx := hx.tr (Sm.ext (Ext.trans he3 he8))
 replace hdx := hdx.tr (Sm.ext (Ext.trans he3 he8))
 refine RL.call rfl rfl (by decide) (r_call (vl := [(.agg #[(.bool sx), vx]), (.agg #[(.bool false), ux])]) ent56 rfl) (r03_make hx (by assumption) (by first | omega | simp) rfl hdx (by assumption) (by first | omega | simp) rfl) ?_
 rintro _ w13 ⟨⟨vn15, vd17, rfl, hn16, hd18, hl19, hl20⟩, he14⟩
 have hlv21 := den_one (Rat.divInt (sg sx (val x)) (sg false (val dx)))
 replace hn16 := hn16.fr hE
 replace hd18 := hd18.fr hE
 replace hE := hE.nx he14
 replace hb9 := hb9.ext he14
 refine RL.runs rfl rfl (h_store (vv := (.agg #[(.bool (decide ((Rat.divInt (sg sx (val x)) (sg false (val dx))).num < 0))), vn15, vd17])) (cs := [(.bool (decide ((Rat.divInt (sg sx (val x)) (sg false (val dx))).num < 0))), vn15, vd17]) (o := 0) ty44 rfl rfl rfl rfl (one_cons rfl (one_cons hn16.one (one_cons hd18.one one_nil))) hb9 (Nat.le_of_ble_eq_true rfl)) ?_
 rintro w22 ⟨hn23, hx24, hz25⟩
 replace hE := hE.nb hx24 ge_b7
 have nb_hx24 := (Nb.of hb9 (nu_cons rfl (nu_cons rfl (nu_cons rfl nu_nil))))
 replace hb9 : Bk w22 b7 44 [(.bool (decide ((Rat.divInt (sg sx (val x)) (sg false (val dx))).num < 0))), vn15, vd17] := hn23
 refine RL.nil ?_
 refine wret ?_
 refine ⟨[(.agg #[(.bool (decide ((Rat.divInt (sg sx (val x)) (sg false (val dx))).num < 0))), vn15, vd17])], ⟨⟨_, _, [(.bool (decide ((Rat.divInt (sg sx (val x)) (sg false (val dx))).num < 0))), vn15, vd17], rfl, ⟨_, underlying44⟩, hb9.cells rfl, .inl ⟨ag44, ⟨_, _, ty44⟩, rfl⟩⟩, trivial⟩, ?_⟩
 have hq : (Rat.divInt (sg sx (val x)) (sg false (val dx))) = qx := ex
 rw [← hq]
 replace hn16 := hn16.apn hx24 nb_hx24
 replace hd18 := hd18.apn hx24 nb_hx24
 exact ⟨⟨_, _, rfl, hn16, hd18, by omega, by omega⟩, hE⟩
set_option maxHeartbeats 1000000 in
theorem r03_from {w : World} {k : Int} (hk : -9223372036854775808 ≤ k ∧ k ≤ 9223372036854775807) :
    Calls Tryz.prog 23 #[(.int .i64 (k))] w fun e w' => ∃ v, e = .returned v ∧ (∃ vn vd, v = .agg #[.bool (decide (((k : Int) : Rat).num < 0)), vn, vd] ∧ Sg (gN .u32) (fun b T => w.heap.size ≤ b ∧ T = 96) w' vn (digs ((k : Int) : Rat).num.natAbs) ∧ Sg (gN .u32) (fun b T => w.heap.size ≤ b ∧ T = 96) w' vd (digs ((k : Int) : Rat).den) ∧ (digs ((k : Int) : Rat).num.natAbs).length ≤ 2 ∧ (digs ((k : Int) : Rat).den).length ≤ 3) ∧ Ext w w' := by
 have hE : Below w.heap.size w w := Below.refl _ _
 refine calls_of (n := 7) (rs := [.cell 2 44]) func23 rfl rfl rfl (Nat.le_of_ble_eq_true rfl) ?_
 refine wset fun F0 hF0 => ?_
 refine wsr ?_
 refine rU (h_alloc (cs := [(.bool false), (.slice none 0 0), (.slice none 0 0)]) ty44 rfl) ?_
 rintro _ w1 ⟨b2, rfl, hs5, hb4, he3⟩
 have ge_b2 := hE.ge hs5
 replace hE := hE.nx he3
 refine RL.nil (wsr (mV (v := (.int .i64 (k))) (hF0 0) ?_))
 refine cL ent57 (r02_from (by omega)) rfl ?_
 rintro _ w6 ⟨⟨vr8, rfl, hr9, hl10⟩, he7⟩
 replace hr9 := hr9.fr hE
 replace hE := hE.nx he7
 refine cL ent57 (r02_from (by omega)) rfl ?_
 rintro _ w11 ⟨⟨vr13, rfl, hr14, hl15⟩, he12⟩
 replace hr14 := hr14.fr hE
 replace hE := hE.nx he12
 replace hr9 := hr9.tr (Sm.ext he12)
 refine RL.call rfl rfl (by decide) (r_call (vl := [(.agg #[(.bool (decide (k < 0))), vr8]), (.agg #[(.bool (decide (1 < 0))), vr13])]) ent56 rfl) (r03_make hr9 (digs_lm _) (by first | omega | simp) (sg_canon _) hr14 (digs_lm _) (by first | omega | simp) (sg_canon _)) ?_
 rintro _ w16 ⟨⟨vn18, vd20, rfl, hn19, hd21, hl22, hl23⟩, he17⟩
 have hlv24 := den_one (Rat.divInt k 1)
 replace hn19 := hn19.fr hE
 replace hd21 := hd21.fr hE
 replace hE := hE.nx he17
 have hm29 := Ext.trans he7 (Ext.trans he12 he17)
 replace hb4 := hb4.ext hm29
 refine RL.runs rfl rfl (h_store (vv := (.agg #[(.bool (decide ((Rat.divInt k 1).num < 0))), vn18, vd20])) (cs := [(.bool (decide ((Rat.divInt k 1).num < 0))), vn18, vd20]) (o := 0) ty44 rfl rfl rfl rfl (one_cons rfl (one_cons hn19.one (one_cons hd21.one one_nil))) hb4 (Nat.le_of_ble_eq_true rfl)) ?_
 rintro w25 ⟨hn26, hx27, hz28⟩
 replace hE := hE.nb hx27 ge_b2
 have nb_hx27 := (Nb.of hb4 (nu_cons rfl (nu_cons rfl (nu_cons rfl nu_nil))))
 replace hb4 : Bk w25 b2 44 [(.bool (decide ((Rat.divInt k 1).num < 0))), vn18, vd20] := hn26
 refine RL.nil ?_
 refine wret ?_
 refine ⟨[(.agg #[(.bool (decide ((Rat.divInt k 1).num < 0))), vn18, vd20])], ⟨⟨_, _, [(.bool (decide ((Rat.divInt k 1).num < 0))), vn18, vd20], rfl, ⟨_, underlying44⟩, hb4.cells rfl, .inl ⟨ag44, ⟨_, _, ty44⟩, rfl⟩⟩, trivial⟩, ?_⟩
 have hq : (Rat.divInt k 1) = ((k : Int) : Rat) := int_law k
 rw [← hq]
 replace hn19 := hn19.apn hx27 nb_hx27
 replace hd21 := hd21.apn hx27 nb_hx27
 exact ⟨⟨_, _, rfl, hn19, hd21, by omega, by omega⟩, hE⟩
end Go.Proofs.YtffgajgibddfmaaGreat
namespace Go.Proofs.YtffgajgibddfmaaGreat
open Go.Vg Go.RowKit _root_.Go.Proofs.Tryz
set_option linter.unusedVariables false
open Go.Vm
set_option maxHeartbeats 1000000 in
theorem q_parts {w : World} {sx : Bool} {Dx Ex : Nat → TypeId → Prop} {vx ux : Value} {x dx : List Nat} (hx : Sg (gN .u32) Dx w vx x) (lmx : Lm x) (lnx : x.length ≤ 68719476736) (hdx : Sg (gN .u32) Ex w ux dx) (lmdx : Lm dx) (lndx : dx.length ≤ 68719476736) {qx : Rat} (ex : ratOf sx (val x) (val dx) = qx) :
    Calls Tryz.prog 67 #[(.agg #[(.bool sx), vx, ux])] w fun e w' => ∃ v, e = .returned v ∧ (∃ s' vn vd xn xd, v = .tuple #[.agg #[.bool s', vn], vd] ∧ Sg (gN .u32) (fun _ _ => True) w' vn xn ∧ Lm xn ∧ xn.length ≤ x.length ∧ Sg (gN .u32) (fun _ _ => True) w' vd xd ∧ Lm xd ∧ xd.length ≤ dx.length + 1 ∧ val xd ≠ 0 ∧ ratOf s' (val xn) (val xd) = qx) ∧ Ext w w' := by
 have hE : Below w.heap.size w w := Below.refl _ _
 have hlqx := rl_of lmx lmdx ex
 have hdqx := den_one qx
 refine calls_of (n := 14) (rs := [.cell 2 42, .tmp 3]) func67 rfl rfl rfl (Nat.le_of_ble_eq_true rfl) ?_
 refine wset fun F0 hF0 => ?_
 refine wsr ?_
 refine rU (h_box (vv := (.agg #[(.bool sx), vx, ux])) (cs := [(.bool sx), vx, ux]) (hF0 0) rfl) ?_
 rintro _ w1 ⟨b2, rfl, hs5, hb4, he3⟩
 have ge_b2 := hE.ge hs5
 replace hE := hE.nx he3
 refine rU (h_alloc (cs := [(.bool false), (.slice none 0 0)]) ty42 rfl) ?_
 rintro _ w6 ⟨b7, rfl, hs10, hb9, he8⟩
 have lt_b2_b7 := Nat.lt_of_lt_of_eq hb4.lt hs10.symm
 have ge_b7 := hE.ge hs10
 replace hE := hE.nx he8
 refine aS (v := (.slice none (0) (0))) rfl (RL.nil (wseq (wsr (rV (r_fieldAddr underlying44 rfl ty40 rfl) ?_))))
 replace hb4 := hb4.ext he8
 have hc11 := hb4.cell (j := 2) (u := ux) rfl
 refine rV (r_load underlying40 ag40 rfl hc11) ?_
 replace hdx := hdx.tr (Sm.ext (Ext.trans he3 he8))
 refine cL ent77 (n_compare hdx (by assumption) (by first | omega | simp) (Sg.nil (g := gN .u32) (D := (fun b T => w.heap.size ≤ b ∧ T = 96))) Lm.nil (by first | omega | simp)) rfl ?_
 rintro vq15 w12 ⟨hq14, he13⟩
 subst hq14
 replace hE := hE.nx he13
 refine rV (r_eql (k := .i64) (a := cmpI (((val dx) : Nat) : Int) (((val ([])) : Nat) : Int)) (b := 0) rfl rfl) (RL.nil ?_)
 refine wcond (b := decide ((cmpI (((val dx) : Nat) : Int) (((val ([])) : Nat) : Int)) = 0)) rfl (fun hb16 => ?_) (fun hb16 => ?_)
 ·have hb16p := of_decide_eq_true hb16
  have hz : val dx = 0 := by have h9 := cmpI_zero.1 hb16p; have h8 : val [] = 0 := rfl; omega
  refine wsr (rV (r_build (vl := []) (cs := [(.bool false), (.slice none 0 0)]) underlying42 ty42 rfl (pl42 underlying42) rfl) ?_)
  refine rU (h_lit (vl := [(0, (.int .u32 1))]) (cs := [(.int .u32 1)]) underlying40 ty96 rfl (by decide) (by first | (simp [Instr.fill, Value.cells]; done) | rfl | kernel_rfl)) ?_
  rintro _ w17 ⟨b18, rfl, hs21, hb20, he19⟩
  replace hb9 := hb9.ext he13
  have lt_b7_b18 := Nat.lt_of_lt_of_eq hb9.lt hs21.symm
  have ge_b18 := hE.ge hs21
  replace hE := hE.nx he19
  replace hb9 := hb9.ext he19
  refine RL.runs rfl rfl (h_store (vv := (.agg #[(.bool false), (.slice none 0 0)])) (cs := [(.bool false), (.slice none 0 0)]) (o := 0) ty42 rfl rfl rfl rfl (one_cons rfl (one_cons rfl one_nil)) hb9 (Nat.le_of_ble_eq_true rfl)) ?_
  rintro w22 ⟨hn23, hx24, hz25⟩
  replace hE := hE.nb hx24 ge_b7
  have nb_hx24 := (Nb.of hb9 (nu_cons rfl (nu_cons rfl nu_nil)))
  replace hb9 : Bk w22 b7 42 [(.bool false), (.slice none 0 0)] := hn23
  refine aS (v := (.slice (some ⟨b18, 0, none⟩) (1) (1))) rfl (RL.nil ?_)
  refine wret ?_
  refine ⟨[(.agg #[(.bool false), (.slice none 0 0)]), (.slice (some ⟨b18, 0, none⟩) (1) (1))], ⟨⟨_, _, [(.bool false), (.slice none 0 0)], rfl, ⟨_, underlying42⟩, hb9.cells rfl, .inl ⟨ag42, ⟨_, _, ty42⟩, rfl⟩⟩, ⟨rfl, trivial⟩⟩, ?_⟩
  replace hb20 := hb20.exc hx24 (Nat.ne_of_gt lt_b7_b18)
  exact ⟨⟨_, _, _, [], [1], rfl, Sg.nil, Lm.nil, Nat.zero_le _, hb20.sg (g := gN .u32) (D := (fun _ _ => True)) (xs := [1]) trivial rfl rfl (by decide), (by intro z hz; simp at hz; omega), by simp, by decide, by rw [← ex, hz, ratOf_den0]; rfl⟩, hE⟩
 ·have hb16p := of_decide_eq_false hb16
  have hz : val dx ≠ 0 := fun h => hb16p (cmpI_zero.2 (by rw [h]; rfl))
  refine wskip ?_
  refine wseq ?_
  refine wdrawT (fun u => Bk u b2 44 [(.bool sx), vx, ux]) mixed fun w26 he27 => ?_
  replace hE := hE.nx he27
  refine ra 0 rfl (fun _ => r_fieldAddr underlying44 rfl ty42 rfl) ?_
  replace hb4 := hb4.ext (Ext.trans he13 he27)
  refine RA.rd 1 rfl (by kernel_rfl) rfl rfl rfl (by decide) hb4 (fun u hu => r_loada (o := 0) (cs := [(.bool sx), vx]) underlying42 ag42 ty42 rfl (hu.cells (o := 0) (cs := [(.bool sx), vx]) rfl)) ?_
  refine ra 2 rfl (fun _ => r_fieldAddr underlying44 rfl ty40 rfl) ?_
  refine RA.rd 3 rfl (by kernel_rfl) rfl rfl rfl (by decide) hb4 (fun u hu => r_load underlying40 ag40 rfl (hu.cell (j := 2) (u := ux) rfl)) ?_
  refine RA.all [4] (by kernel_rfl) rfl ?_
  replace hb9 := hb9.ext (Ext.trans he13 he27)
  refine RS.runs rfl rfl rfl (h_store (vv := (.agg #[(.bool sx), vx])) (cs := [(.bool sx), vx]) (o := 0) ty42 rfl rfl rfl rfl (one_cons rfl (one_cons hx.one one_nil)) hb9 (Nat.le_of_ble_eq_true rfl)) ?_ RS.nil
  rintro w30 ⟨hn31, hx32, hz33⟩
  replace hE := hE.nb hx32 ge_b7
  have nb_hx32 := (Nb.of hb9 (nu_cons rfl (nu_cons rfl nu_nil)))
  replace hb9 : Bk w30 b7 42 [(.bool sx), vx] := hn31
  replace hb4 := hb4.exc hx32 (Nat.ne_of_lt lt_b2_b7)
  refine ⟨.inr (.inr hb4), ?_⟩
  refine ra 5 rfl (fun _ => r_assign_as (v := ux) rfl) ?_
  refine RA.done (by kernel_rfl) ?_
  refine wret ?_
  refine ⟨[(.agg #[(.bool sx), vx]), ux], ⟨⟨_, _, [(.bool sx), vx], rfl, ⟨_, underlying42⟩, hb9.cells rfl, .inl ⟨ag42, ⟨_, _, ty42⟩, rfl⟩⟩, ⟨rfl, trivial⟩⟩, ?_⟩
  have hm34 := Ext.trans he3 (Ext.trans he8 (Ext.trans he13 he27))
  replace hx := (hx.tr (Sm.ext hm34)).apn hx32 nb_hx32
  replace hdx := (hdx.tr (Sm.ext (Ext.trans he13 he27))).apn hx32 nb_hx32
  exact ⟨⟨_, _, _, _, _, rfl, hx.mono (fun _ _ _ => trivial), lmx, Nat.le_refl _, hdx.mono (fun _ _ _ => trivial), lmdx, Nat.le_succ _, hz, ex⟩, hE⟩
set_option maxHeartbeats 1000000 in
theorem q_lowest {w : World} {sx : Bool} {Dx : Nat → TypeId → Prop} {vx : Value} {x : List Nat} (hx : Sg (gN .u32) Dx w vx x) (lmx : Lm x) (lnx : x.length ≤ 137438953472) {zx : Int} (ex : sg sx (val x) = zx) {Dd : Nat → TypeId → Prop} {vd : Value} {d : List Nat} (hd : Sg (gN .u32) Dd w vd d) (lmd : Lm d) (lnd : d.length ≤ 137438953472) (hnz : val d ≠ 0) :
    Calls Tryz.prog 71 #[(.agg #[(.bool sx), vx]), vd] w fun e w' => ∃ v, e = .returned v ∧ (∃ vn vd, v = .agg #[.bool (decide ((Rat.divInt zx ((val d : Nat) : Int)).num < 0)), vn, vd] ∧ Sg (gN .u32) (fun b T => w.heap.size ≤ b ∧ T = 96) w' vn (digs (Rat.divInt zx ((val d : Nat) : Int)).num.natAbs) ∧ Sg (gN .u32) (fun b T => w.heap.size ≤ b ∧ T = 96) w' vd (digs (Rat.divInt zx ((val d : Nat) : Int)).den) ∧ (digs (Rat.divInt zx ((val d : Nat) : Int)).num.natAbs).length ≤ x.length ∧ (digs (Rat.divInt zx ((val d : Nat) : Int)).den).length ≤ d.length + 1) ∧ Ext w w' := by
 have hE : Below w.heap.size w w := Below.refl _ _
 have hlzx := il_le lmx ex
 have hlvd := dl_val lmd
 refine calls_of (n := 48) (rs := [.cell 4 44]) func71 rfl rfl rfl (Nat.le_of_ble_eq_true rfl) ?_
 refine wset fun F0 hF0 => ?_
 refine wsr ?_
 refine rU (h_box (vv := (.agg #[(.bool sx), vx])) (cs := [(.bool sx), vx]) (hF0 0) rfl) ?_
 rintro _ w1 ⟨b2, rfl, hs5, hb4, he3⟩
 have ge_b2 := hE.ge hs5
 replace hE := hE.nx he3
 refine rU (h_alloc (cs := [(.bool false), (.slice none 0 0), (.slice none 0 0)]) ty44 rfl) ?_
 rintro _ w6 ⟨b7, rfl, hs10, hb9, he8⟩
 have lt_b2_b7 := Nat.lt_of_lt_of_eq hb4.lt hs10.symm
 have ge_b7 := hE.ge hs10
 replace hE := hE.nx he8
 refine RL.nil (wsr ?_)
 replace hb4 := hb4.ext he8
 have hc11 := hb4.cells (o := 0) (cs := [(.bool sx), vx]) rfl
 refine rV (r_loada (o := 0) (cs := [(.bool sx), vx]) underlying42 ag42 ty42 rfl hc11) ?_
 replace hx := hx.tr (Sm.ext (Ext.trans he3 he8))
 refine RL.call rfl rfl (by decide) (r_call (vl := [(.agg #[(.bool sx), vx])]) ent103 rfl) (i_norm hx (by assumption) (by first | omega | simp) (show sg sx (val x) = zx from ex)) ?_
 rintro _ w12 ⟨⟨vr14, rfl, hr15, hl16⟩, he13⟩
 replace hr15 := hr15.fr hE
 replace hE := hE.nx he13
 refine mV (v := vd) (hF0 1) ?_
 have hm21 := Ext.trans he3 (Ext.trans he8 he13)
 replace hd := hd.tr (Sm.ext hm21)
 refine cL ent104 (n_trim hd (by assumption) (by first | omega | simp)) rfl ?_
 rintro vr19 w17 ⟨hr20, he18⟩
 replace hr20 := hr20.fr hE
 replace hE := hE.nx he18
 have hlt22 : (digs (val d)).length ≤ d.length := len_le_of (by assumption)
 replace hb4 := hb4.ext (Ext.trans he13 he18)
 refine RL.runs rfl rfl (h_store (vv := (.agg #[(.bool (decide (zx < 0))), vr14])) (cs := [(.bool (decide (zx < 0))), vr14]) (o := 0) ty42 rfl rfl rfl rfl (one_cons rfl (one_cons hr15.one one_nil)) hb4 (Nat.le_of_ble_eq_true rfl)) ?_
 rintro w23 ⟨hn24, hx25, hz26⟩
 replace hE := hE.nb hx25 ge_b2
 have nb_hx25 := (Nb.of hb4 (nu_cons rfl (nu_cons hx.nu nu_nil)))
 replace hb4 : Bk w23 b2 42 [(.bool (decide (zx < 0))), vr14] := hn24
 refine aS (v := vr19) rfl (RL.nil (wseq (wsr (rV (r_fieldAddr underlying42 rfl ty40 rfl) ?_))))
 have hc27 := hb4.cell (j := 1) (u := vr14) rfl
 refine rV (r_load underlying40 ag40 rfl hc27) ?_
 obtain ⟨A28, c29, hv30, hc31, hc32⟩ := hr15.len
 refine rV (r_len underlying40 hv30) (rV (r_eql (k := .i64) (a := (((digs zx.natAbs).length : Nat) : Int)) (b := 0) rfl rfl) (RL.nil ?_))
 refine wcond (b := decide ((((digs zx.natAbs).length : Nat) : Int) = 0)) rfl (fun hb33 => ?_) (fun hb33 => ?_)
 ·have hb33p := of_decide_eq_true hb33
  have hz0 : zx = 0 := by have h9 := len_zero.1 (show len zx.natAbs = 0 by unfold len; omega); omega
  refine wsr ?_
  refine rU (h_lit (vl := [(0, (.int .u32 1))]) (cs := [(.int .u32 1)]) underlying40 ty96 rfl (by decide) (by first | (simp [Instr.fill, Value.cells]; done) | rfl | kernel_rfl)) ?_
  rintro _ w34 ⟨b35, rfl, hs38, hb37, he36⟩
  replace hb9 := (hb9.ext (Ext.trans he13 he18)).exc hx25 (Nat.ne_of_gt lt_b2_b7)
  have lt_b7_b35 := Nat.lt_of_lt_of_eq hb9.lt hs38.symm
  have ge_b35 := hE.ge hs38
  replace hE := hE.nx he36
  refine rV (r_build (vl := [(1, (.slice (some ⟨b35, 0, none⟩) (1) (1)))]) (cs := [(.bool false), (.slice none 0 0), (.slice (some ⟨b35, 0, none⟩) (1) (1))]) underlying44 ty44 rfl (pl44 underlying44) rfl) ?_
  replace hb9 := hb9.ext he36
  refine RL.runs rfl rfl (h_store (vv := (.agg #[(.bool false), (.slice none 0 0), (.slice (some ⟨b35, 0, none⟩) (1) (1))])) (cs := [(.bool false), (.slice none 0 0), (.slice (some ⟨b35, 0, none⟩) (1) (1))]) (o := 0) ty44 rfl rfl rfl rfl (one_cons rfl (one_cons rfl (one_cons rfl one_nil))) hb9 (Nat.le_of_ble_eq_true rfl)) ?_
  rintro w39 ⟨hn40, hx41, hz42⟩
  replace hE := hE.nb hx41 ge_b7
  have nb_hx41 := (Nb.of hb9 (nu_cons rfl (nu_cons rfl (nu_cons rfl nu_nil))))
  replace hb9 : Bk w39 b7 44 [(.bool false), (.slice none 0 0), (.slice (some ⟨b35, 0, none⟩) (1) (1))] := hn40
  refine RL.nil ?_
  refine wret ?_
  refine ⟨[(.agg #[(.bool false), (.slice none 0 0), (.slice (some ⟨b35, 0, none⟩) (1) (1))])], ⟨⟨_, _, [(.bool false), (.slice none 0 0), (.slice (some ⟨b35, 0, none⟩) (1) (1))], rfl, ⟨_, underlying44⟩, hb9.cells rfl, .inl ⟨ag44, ⟨_, _, ty44⟩, rfl⟩⟩, trivial⟩, ?_⟩
  rw [hz0, Rat.zero_divInt]
  replace hb37 := hb37.exc hx41 (Nat.ne_of_gt lt_b7_b35)
  exact ⟨⟨_, _, rfl, Sg.nil, hb37.sg (g := gN .u32) (D := (fun b T => w.heap.size ≤ b ∧ T = 96)) (xs := [1]) ⟨ge_b35, rfl⟩ rfl rfl (by decide), Nat.zero_le _, show (digs (0 : Rat).den).length ≤ d.length + 1 from Nat.succ_le_succ (Nat.zero_le _)⟩, hE⟩
 ·have hb33p := of_decide_eq_false hb33
  have hz0 : zx ≠ 0 := fun h => by rw [h] at hb33p; exact hb33p rfl
  have hgp : 0 < Nat.gcd zx.natAbs (val d) := Nat.gcd_pos_of_pos_right _ (by omega)
  refine wskip ?_
  refine wsr (rV (r_fieldAddr underlying42 rfl ty40 rfl) ?_)
  have hc43 := hb4.cell (j := 1) (u := vr14) rfl
  refine rV (r_load underlying40 ag40 rfl hc43) (mV (v := vr19) rfl ?_)
  replace hr15 := (hr15.tr (Sm.ext he18)).apn hx25 nb_hx25
  replace hr20 := hr20.apn hx25 nb_hx25
  refine cL ent105 (n_gcd hr15 (digs_lm _) (by first | omega | simp) hr20 (digs_lm _) (by first | omega | simp)) rfl ?_
  rintro vr46 w44 ⟨hr47, he45⟩
  try rw [val_digs] at hr47
  try rw [val_digs] at hr47
  replace hr47 := hr47.fr hE
  replace hE := hE.nx he45
  have hlv48 := dl_gcd zx.natAbs (val d)
  refine aS (v := vr46) rfl (RL.nil (wseq (wsr (mV (v := vr46) rfl ?_))))
  obtain ⟨A49, c50, hv51, hc52, hc53⟩ := hr47.len
  refine rV (r_len underlying40 hv51) (rV (r_neq (k := .i64) (a := (((digs (Nat.gcd zx.natAbs (val d))).length : Nat) : Int)) (b := 1) rfl rfl) (mV (v := (.bool (decide ((((digs (Nat.gcd zx.natAbs (val d))).length : Nat) : Int) ≠ 1)))) rfl ?_))
  rcases Bool.eq_false_or_eq_true (decide ((((digs (Nat.gcd zx.natAbs (val d))).length : Nat) : Int) ≠ 1)) with hb54 | hb54
  ·have hb54p := of_decide_eq_true hb54
   refine RL.gno rfl rfl (bool_eq hb54) rfl (by decide) ?_
   refine RL.gno rfl rfl (bool_eq hb54) rfl (by decide) ?_
   refine RL.gno rfl rfl (bool_eq hb54) rfl (by decide) ?_
   refine RL.gno rfl rfl (bool_eq hb54) rfl (by decide) ?_
   refine rV (r_pick_t (v := (.bool true)) (bool_eq hb54) rfl) (RL.nil ?_)
   refine wcond_t rfl ?_
   refine wsr (rV (r_fieldAddr underlying42 rfl ty40 rfl) ?_)
   replace hb4 := hb4.ext he45
   have hc55 := hb4.cell (j := 1) (u := vr14) rfl
   refine rV (r_load underlying40 ag40 rfl hc55) (mV (v := vr46) rfl ?_)
   replace hr15 := hr15.tr (Sm.ext he45)
   refine cL ent106 (n_divmod hr15 (digs_lm _) (by first | omega | simp) hr47 (digs_lm _) (by first | omega | simp)) rfl ?_
   rintro vv62 w56 ⟨⟨vq58, vr60, hv63, hq59, hr61⟩, he57⟩
   simp only [val_digs] at hv63 hq59 hr61
   subst hv63
   have hlv64 := dl_div zx.natAbs (Nat.gcd zx.natAbs (val d))
   have hlv65 := dl_modZ zx.natAbs (Nat.gcd zx.natAbs (val d))
   have hlv66 := dl_modZ' zx.natAbs (Nat.gcd zx.natAbs (val d))
   replace hq59 := hq59.fr hE
   replace hr61 := hr61.fr hE
   replace hE := hE.nx he57
   refine mV (v := (.tuple #[vq58, vr60, (.bool (decide ((Nat.gcd zx.natAbs (val d)) ≠ 0)))])) rfl (rV (r_extract (v := vq58) rfl rfl) (rV (r_extract (v := vr60) rfl rfl) (rV (r_extract (v := (.bool (decide ((Nat.gcd zx.natAbs (val d)) ≠ 0)))) rfl rfl) (rV (r_fieldAddr underlying42 rfl ty40 rfl) ?_))))
   replace hb4 := hb4.ext he57
   refine RL.runs rfl rfl (h_store (vv := vq58) (cs := [vq58]) (o := 1) ty40 rfl rfl (cells_one hq59.one) rfl (one_cons hq59.one one_nil) hb4 (Nat.le_of_ble_eq_true rfl)) ?_
   rintro w67 ⟨hn68, hx69, hz70⟩
   replace hE := hE.nb hx69 ge_b2
   have nb_hx69 := (Nb.of hb4 (nu_cons rfl (nu_cons hr15.nu nu_nil)))
   replace hb4 : Bk w67 b2 42 [(.bool (decide (zx < 0))), vq58] := hn68
   refine RL.nil (wregion (mV (v := vr19) rfl (mV (v := vr46) rfl ?_)))
   replace hr20 := (hr20.tr (Sm.ext (Ext.trans he45 he57))).apn hx69 nb_hx69
   replace hr47 := (hr47.tr (Sm.ext he57)).apn hx69 nb_hx69
   refine cL ent106 (n_divmod hr20 (digs_lm _) (by first | omega | simp) hr47 (digs_lm _) (by first | omega | simp)) rfl ?_
   rintro vv77 w71 ⟨⟨vq73, vr75, hv78, hq74, hr76⟩, he72⟩
   simp only [val_digs] at hv78 hq74 hr76
   subst hv78
   have hlv79 := dl_div (val d) (Nat.gcd zx.natAbs (val d))
   have hlv80 := dl_modZ (val d) (Nat.gcd zx.natAbs (val d))
   have hlv81 := dl_modZ' (val d) (Nat.gcd zx.natAbs (val d))
   replace hq74 := hq74.fr hE
   replace hr76 := hr76.fr hE
   replace hE := hE.nx he72
   refine mV (v := (.tuple #[vq73, vr75, (.bool (decide ((Nat.gcd zx.natAbs (val d)) ≠ 0)))])) rfl (rV (r_extract (v := vq73) rfl rfl) (rV (r_extract (v := vr75) rfl rfl) (rV (r_extract (v := (.bool (decide ((Nat.gcd zx.natAbs (val d)) ≠ 0)))) rfl rfl) (aS (v := vq73) rfl (RL.nil (wsr ?_))))))
   replace hb4 := hb4.ext he72
   have hc82 := hb4.cells (o := 0) (cs := [(.bool (decide (zx < 0))), vq58]) rfl
   refine rV (r_loada (o := 0) (cs := [(.bool (decide (zx < 0))), vq58]) underlying42 ag42 ty42 rfl hc82) (mV (v := vq73) rfl (rV (r_build (vl := [(0, (.agg #[(.bool (decide (zx < 0))), vq58])), (1, vq73)]) (cs := [(.bool (decide (zx < 0))), vq58, vq73]) underlying44 ty44 rfl (pl44 underlying44) (by obtain ⟨_, _, e0_, -, -⟩ := hq74.len; simp only [e0_]; rfl)) ?_))
   replace hb9 := ((((hb9.ext (Ext.trans he13 he18)).exc hx25 (Nat.ne_of_gt lt_b2_b7)).ext (Ext.trans he45 he57)).exc hx69 (Nat.ne_of_gt lt_b2_b7)).ext he72
   refine RL.runs rfl rfl (h_store (vv := (.agg #[(.bool (decide (zx < 0))), vq58, vq73])) (cs := [(.bool (decide (zx < 0))), vq58, vq73]) (o := 0) ty44 rfl rfl rfl rfl (one_cons rfl (one_cons hq59.one (one_cons hq74.one one_nil))) hb9 (Nat.le_of_ble_eq_true rfl)) ?_
   rintro w83 ⟨hn84, hx85, hz86⟩
   replace hE := hE.nb hx85 ge_b7
   have nb_hx85 := (Nb.of hb9 (nu_cons rfl (nu_cons rfl (nu_cons rfl nu_nil))))
   replace hb9 : Bk w83 b7 44 [(.bool (decide (zx < 0))), vq58, vq73] := hn84
   refine RL.nil ?_
   refine wret ?_
   refine ⟨[(.agg #[(.bool (decide (zx < 0))), vq58, vq73])], ⟨⟨_, _, [(.bool (decide (zx < 0))), vq58, vq73], rfl, ⟨_, underlying44⟩, hb9.cells rfl, .inl ⟨ag44, ⟨_, _, ty44⟩, rfl⟩⟩, trivial⟩, ?_⟩
   have hlaw := low_law (z := zx) hnz
   have hl1 := rl_num (a := zx) (b := ((val d : Nat) : Int))
   have hl2 := rl_den (a := zx) (b := ((val d : Nat) : Int))
   rw [Int.natAbs_natCast] at hl2
   replace hq59 := ((hq59.apn hx69 nb_hx69).tr (Sm.ext he72)).apn hx85 nb_hx85
   replace hq74 := hq74.apn hx85 nb_hx85
   exact ⟨⟨_, _, agg3 (decide_eq_decide.2 hlaw.2.2.symm), by rw [hlaw.1]; exact hq59, by rw [hlaw.2.1]; exact hq74, by omega, by omega⟩, hE⟩
  ·have hb54p := of_decide_eq_false hb54
   have hone := one_dig (n := Nat.gcd zx.natAbs (val d)) (by omega)
   refine RL.gval rfl rfl (bool_eq hb54) rfl (by decide) (r_move_as (v := vr46) rfl) ?_
   obtain ⟨b87, o88, c89, hv90, hc91⟩ := hr47.ix (i := 0) (0) (by omega) (by omega)
   rw [show (digs (Nat.gcd zx.natAbs (val d))).getD (0) default = Nat.gcd zx.natAbs (val d) from hone.1] at hc91
   refine RL.gval rfl rfl (bool_eq hb54) rfl (by decide) (r_indexAddr (i := 0) underlying40 ty96 hv90 rfl (by omega) (by omega)) ?_
   refine RL.gval rfl rfl (bool_eq hb54) rfl (by decide) (r_load (v := (.int .u32 (((Nat.gcd zx.natAbs (val d) : Nat) : Int)))) underlying96 ag96 rfl hc91) ?_
   refine RL.gval rfl rfl (bool_eq hb54) rfl (by decide) (r_neq (k := .u32) (a := ((Nat.gcd zx.natAbs (val d) : Nat) : Int)) (b := 1) rfl rfl) ?_
   refine rV (r_pick_f (v := (.bool (decide (((Nat.gcd zx.natAbs (val d) : Nat) : Int) ≠ 1)))) (bool_eq hb54) rfl) (RL.nil ?_)
   refine wcond (b := decide (((Nat.gcd zx.natAbs (val d) : Nat) : Int) ≠ 1)) rfl (fun hb92 => ?_) (fun hb92 => ?_)
   ·have hb92p := of_decide_eq_true hb92
    refine wsr (rV (r_fieldAddr underlying42 rfl ty40 rfl) ?_)
    replace hb4 := hb4.ext he45
    have hc93 := hb4.cell (j := 1) (u := vr14) rfl
    refine rV (r_load underlying40 ag40 rfl hc93) (mV (v := vr46) rfl ?_)
    replace hr15 := hr15.tr (Sm.ext he45)
    refine cL ent106 (n_divmod hr15 (digs_lm _) (by first | omega | simp) hr47 (digs_lm _) (by first | omega | simp)) rfl ?_
    rintro vv100 w94 ⟨⟨vq96, vr98, hv101, hq97, hr99⟩, he95⟩
    simp only [val_digs] at hv101 hq97 hr99
    subst hv101
    have hlv102 := dl_div zx.natAbs (Nat.gcd zx.natAbs (val d))
    have hlv103 := dl_modZ zx.natAbs (Nat.gcd zx.natAbs (val d))
    have hlv104 := dl_modZ' zx.natAbs (Nat.gcd zx.natAbs (val d))
    replace hq97 := hq97.fr hE
    replace hr99 := hr99.fr hE
    replace hE := hE.nx he95
    refine mV (v := (.tuple #[vq96, vr98, (.bool (decide ((Nat.gcd zx.natAbs (val d)) ≠ 0)))])) rfl (rV (r_extract (v := vq96) rfl rfl) (rV (r_extract (v := vr98) rfl rfl) (rV (r_extract (v := (.bool (decide ((Nat.gcd zx.natAbs (val d)) ≠ 0)))) rfl rfl) (rV (r_fieldAddr underlying42 rfl ty40 rfl) ?_))))
    replace hb4 := hb4.ext he95
    refine RL.runs rfl rfl (h_store (vv := vq96) (cs := [vq96]) (o := 1) ty40 rfl rfl (cells_one hq97.one) rfl (one_cons hq97.one one_nil) hb4 (Nat.le_of_ble_eq_true rfl)) ?_
    rintro w105 ⟨hn106, hx107, hz108⟩
    replace hE := hE.nb hx107 ge_b2
    have nb_hx107 := (Nb.of hb4 (nu_cons rfl (nu_cons hr15.nu nu_nil)))
    replace hb4 : Bk w105 b2 42 [(.bool (decide (zx < 0))), vq96] := hn106
    refine RL.nil (wregion (mV (v := vr19) rfl (mV (v := vr46) rfl ?_)))
    replace hr20 := (hr20.tr (Sm.ext (Ext.trans he45 he95))).apn hx107 nb_hx107
    replace hr47 := (hr47.tr (Sm.ext he95)).apn hx107 nb_hx107
    refine cL ent106 (n_divmod hr20 (digs_lm _) (by first | omega | simp) hr47 (digs_lm _) (by first | omega | simp)) rfl ?_
    rintro vv115 w109 ⟨⟨vq111, vr113, hv116, hq112, hr114⟩, he110⟩
    simp only [val_digs] at hv116 hq112 hr114
    subst hv116
    have hlv117 := dl_div (val d) (Nat.gcd zx.natAbs (val d))
    have hlv118 := dl_modZ (val d) (Nat.gcd zx.natAbs (val d))
    have hlv119 := dl_modZ' (val d) (Nat.gcd zx.natAbs (val d))
    replace hq112 := hq112.fr hE
    replace hr114 := hr114.fr hE
    replace hE := hE.nx he110
    refine mV (v := (.tuple #[vq111, vr113, (.bool (decide ((Nat.gcd zx.natAbs (val d)) ≠ 0)))])) rfl (rV (r_extract (v := vq111) rfl rfl) (rV (r_extract (v := vr113) rfl rfl) (rV (r_extract (v := (.bool (decide ((Nat.gcd zx.natAbs (val d)) ≠ 0)))) rfl rfl) (aS (v := vq111) rfl (RL.nil (wsr ?_))))))
    replace hb4 := hb4.ext he110
    have hc120 := hb4.cells (o := 0) (cs := [(.bool (decide (zx < 0))), vq96]) rfl
    refine rV (r_loada (o := 0) (cs := [(.bool (decide (zx < 0))), vq96]) underlying42 ag42 ty42 rfl hc120) (mV (v := vq111) rfl (rV (r_build (vl := [(0, (.agg #[(.bool (decide (zx < 0))), vq96])), (1, vq111)]) (cs := [(.bool (decide (zx < 0))), vq96, vq111]) underlying44 ty44 rfl (pl44 underlying44) (by obtain ⟨_, _, e0_, -, -⟩ := hq112.len; simp only [e0_]; rfl)) ?_))
    replace hb9 := ((((hb9.ext (Ext.trans he13 he18)).exc hx25 (Nat.ne_of_gt lt_b2_b7)).ext (Ext.trans he45 he95)).exc hx107 (Nat.ne_of_gt lt_b2_b7)).ext he110
    refine RL.runs rfl rfl (h_store (vv := (.agg #[(.bool (decide (zx < 0))), vq96, vq111])) (cs := [(.bool (decide (zx < 0))), vq96, vq111]) (o := 0) ty44 rfl rfl rfl rfl (one_cons rfl (one_cons hq97.one (one_cons hq112.one one_nil))) hb9 (Nat.le_of_ble_eq_true rfl)) ?_
    rintro w121 ⟨hn122, hx123, hz124⟩
    replace hE := hE.nb hx123 ge_b7
    have nb_hx123 := (Nb.of hb9 (nu_cons rfl (nu_cons rfl (nu_cons rfl nu_nil))))
    replace hb9 : Bk w121 b7 44 [(.bool (decide (zx < 0))), vq96, vq111] := hn122
    refine RL.nil ?_
    refine wret ?_
    refine ⟨[(.agg #[(.bool (decide (zx < 0))), vq96, vq111])], ⟨⟨_, _, [(.bool (decide (zx < 0))), vq96, vq111], rfl, ⟨_, underlying44⟩, hb9.cells rfl, .inl ⟨ag44, ⟨_, _, ty44⟩, rfl⟩⟩, trivial⟩, ?_⟩
    have hlaw := low_law (z := zx) hnz
    have hl1 := rl_num (a := zx) (b := ((val d : Nat) : Int))
    have hl2 := rl_den (a := zx) (b := ((val d : Nat) : Int))
    rw [Int.natAbs_natCast] at hl2
    replace hq97 := ((hq97.apn hx107 nb_hx107).tr (Sm.ext he110)).apn hx123 nb_hx123
    replace hq112 := hq112.apn hx123 nb_hx123
    exact ⟨⟨_, _, agg3 (decide_eq_decide.2 hlaw.2.2.symm), by rw [hlaw.1]; exact hq97, by rw [hlaw.2.1]; exact hq112, by omega, by omega⟩, hE⟩
   ·have hb92p := of_decide_eq_false hb92
    have hg1 : Nat.gcd zx.natAbs (val d) = 1 := by omega
    refine wskip ?_
    refine wsr ?_
    replace hb4 := hb4.ext he45
    have hc125 := hb4.cells (o := 0) (cs := [(.bool (decide (zx < 0))), vr14]) rfl
    refine rV (r_loada (o := 0) (cs := [(.bool (decide (zx < 0))), vr14]) underlying42 ag42 ty42 rfl hc125) (mV (v := vr19) rfl (rV (r_build (vl := [(0, (.agg #[(.bool (decide (zx < 0))), vr14])), (1, vr19)]) (cs := [(.bool (decide (zx < 0))), vr14, vr19]) underlying44 ty44 rfl (pl44 underlying44) (by obtain ⟨_, _, e0_, -, -⟩ := hr20.len; simp only [e0_]; rfl)) ?_))
    replace hb9 := ((hb9.ext (Ext.trans he13 he18)).exc hx25 (Nat.ne_of_gt lt_b2_b7)).ext he45
    refine RL.runs rfl rfl (h_store (vv := (.agg #[(.bool (decide (zx < 0))), vr14, vr19])) (cs := [(.bool (decide (zx < 0))), vr14, vr19]) (o := 0) ty44 rfl rfl rfl rfl (one_cons rfl (one_cons hr15.one (one_cons hr20.one one_nil))) hb9 (Nat.le_of_ble_eq_true rfl)) ?_
    rintro w126 ⟨hn127, hx128, hz129⟩
    replace hE := hE.nb hx128 ge_b7
    have nb_hx128 := (Nb.of hb9 (nu_cons rfl (nu_cons rfl (nu_cons rfl nu_nil))))
    replace hb9 : Bk w126 b7 44 [(.bool (decide (zx < 0))), vr14, vr19] := hn127
    refine RL.nil ?_
    refine wret ?_
    refine ⟨[(.agg #[(.bool (decide (zx < 0))), vr14, vr19])], ⟨⟨_, _, [(.bool (decide (zx < 0))), vr14, vr19], rfl, ⟨_, underlying44⟩, hb9.cells rfl, .inl ⟨ag44, ⟨_, _, ty44⟩, rfl⟩⟩, trivial⟩, ?_⟩
    have hlaw := low_law (z := zx) hnz
    have hl1 := rl_num (a := zx) (b := ((val d : Nat) : Int))
    have hl2 := rl_den (a := zx) (b := ((val d : Nat) : Int))
    rw [Int.natAbs_natCast] at hl2
    rw [hg1, Nat.div_one, Nat.div_one] at hlaw
    replace hr15 := (hr15.tr (Sm.ext he45)).apn hx128 nb_hx128
    replace hr20 := (hr20.tr (Sm.ext he45)).apn hx128 nb_hx128
    exact ⟨⟨_, _, agg3 (decide_eq_decide.2 hlaw.2.2.symm), by rw [hlaw.1]; exact hr15, by rw [hlaw.2.1]; exact hr20, by omega, by omega⟩, hE⟩
set_option maxHeartbeats 1000000 in
theorem q_small {w : World} {sx : Bool} {Dx Ex : Nat → TypeId → Prop} {vx ux : Value} {x dx : List Nat} (hx : Sg (gN .u32) Dx w vx x) (lmx : Lm x) (lnx : x.length ≤ 68719476736) (hdx : Sg (gN .u32) Ex w ux dx) (lmdx : Lm dx) (lndx : dx.length ≤ 68719476736) {qx : Rat} (ex : ratOf sx (val x) (val dx) = qx) :
    Calls Tryz.prog 69 #[(.agg #[(.bool sx), vx, ux])] w fun e w' => ∃ v, e = .returned v ∧ (∃ (n d : Int) (ok : Bool), v = .tuple #[.int .i64 n, .int .i64 d, .bool ok] ∧ (ok = true → -2147483648 < n ∧ n < 2147483648 ∧ 0 < d ∧ d < 2147483648 ∧ Rat.divInt n d = qx)) ∧ Ext w w' := by
 have hE : Below w.heap.size w w := Below.refl _ _
 have hlqx := rl_of lmx lmdx ex
 have hdqx := den_one qx
 refine calls_of (n := 52) (rs := [.tmp 2, .tmp 3, .tmp 4]) func69 rfl rfl rfl (Nat.le_of_ble_eq_true rfl) ?_
 refine wset fun F0 hF0 => ?_
 refine wsr ?_
 refine rU (h_box (vv := (.agg #[(.bool sx), vx, ux])) (cs := [(.bool sx), vx, ux]) (hF0 0) rfl) ?_
 rintro _ w1 ⟨b2, rfl, hs5, hb4, he3⟩
 have ge_b2 := hE.ge hs5
 replace hE := hE.nx he3
 refine aS (v := (.int .i64 0)) rfl (aS (v := (.int .i64 0)) rfl (aS (v := (.bool false)) rfl (RL.nil (wsr (rV (r_fieldAddr underlying44 rfl ty42 rfl) (rV (r_fieldAddr underlying42 rfl ty40 rfl) ?_))))))
 have hc6 := hb4.cell (j := 1) (u := vx) rfl
 refine rV (r_load underlying40 ag40 rfl hc6) ?_
 replace hx := hx.tr (Sm.ext he3)
 refine cL ent101 (n_uint hx (by assumption) (by first | omega | simp)) rfl ?_
 rintro vq9 w7 ⟨hq10, he8⟩
 subst hq10
 replace hE := hE.nx he8
 refine mV (v := (.tuple #[(.int .u64 (((if (val x) < 18446744073709551616 then (val x) else 0 : Nat) : Int))), (.bool (decide ((val x) < 18446744073709551616)))])) rfl (rV (r_extract (v := (.int .u64 (((if (val x) < 18446744073709551616 then (val x) else 0 : Nat) : Int)))) rfl rfl) (rV (r_extract (v := (.bool (decide ((val x) < 18446744073709551616)))) rfl rfl) (aS (v := (.int .u64 (((if (val x) < 18446744073709551616 then (val x) else 0 : Nat) : Int)))) rfl (aS (v := (.bool (decide ((val x) < 18446744073709551616)))) rfl (RL.nil (wsr (rV (r_fieldAddr underlying44 rfl ty40 rfl) ?_)))))))
 replace hb4 := hb4.ext he8
 have hc11 := hb4.cell (j := 2) (u := ux) rfl
 refine rV (r_load underlying40 ag40 rfl hc11) ?_
 replace hdx := hdx.tr (Sm.ext (Ext.trans he3 he8))
 refine cL ent101 (n_uint hdx (by assumption) (by first | omega | simp)) rfl ?_
 rintro vq14 w12 ⟨hq15, he13⟩
 subst hq15
 replace hE := hE.nx he13
 refine mV (v := (.tuple #[(.int .u64 (((if (val dx) < 18446744073709551616 then (val dx) else 0 : Nat) : Int))), (.bool (decide ((val dx) < 18446744073709551616)))])) rfl (rV (r_extract (v := (.int .u64 (((if (val dx) < 18446744073709551616 then (val dx) else 0 : Nat) : Int)))) rfl rfl) (rV (r_extract (v := (.bool (decide ((val dx) < 18446744073709551616)))) rfl rfl) (aS (v := (.int .u64 (((if (val dx) < 18446744073709551616 then (val dx) else 0 : Nat) : Int)))) rfl (aS (v := (.bool (decide ((val dx) < 18446744073709551616)))) rfl (RL.nil (wseq ?_))))))
 refine wblock ?_
 refine wsr (mV (v := (.bool (decide ((val x) < 18446744073709551616)))) rfl (rV (r_not rfl) (mV (v := (.bool (!(decide ((val x) < 18446744073709551616))))) rfl ?_)))
 rcases Bool.eq_false_or_eq_true (!(decide ((val x) < 18446744073709551616))) with hb16 | hb16
 ·have hb16p := hb16
  refine RL.gno rfl rfl (bool_eq hb16) rfl (by decide) ?_
  refine RL.gno rfl rfl (bool_eq hb16) rfl (by decide) ?_
  refine rV (r_pick_t (v := (.bool true)) (bool_eq hb16) rfl) (mV (v := (.bool true)) rfl ?_)
  refine RL.gno rfl rfl rfl rfl (by decide) ?_
  refine RL.gno rfl rfl rfl rfl (by decide) ?_
  refine rV (r_pick_t (v := (.bool true)) rfl rfl) (mV (v := (.bool true)) rfl ?_)
  refine RL.gno rfl rfl rfl rfl (by decide) ?_
  refine RL.gno rfl rfl rfl rfl (by decide) ?_
  refine rV (r_pick_t (v := (.bool true)) rfl rfl) (aS (v := (.bool true)) rfl (RL.nil ?_))
  refine wcond_t rfl ?_
  refine wsr (aS (v := (.int .i64 0)) rfl (aS (v := (.int .i64 0)) rfl (aS (v := (.bool false)) rfl (RL.nil ?_))))
  refine wret ?_
  refine ⟨[(.int .i64 0), (.int .i64 0), (.bool false)], ⟨rfl, ⟨rfl, ⟨rfl, trivial⟩⟩⟩, ?_⟩
  exact ⟨⟨_, _, _, rfl, fun h => by cases h⟩, hE⟩
 ·have hb16p := hb16
  have hx64 : val x < 18446744073709551616 := by simpa using hb16
  refine RL.gval rfl rfl (bool_eq hb16) rfl (by decide) (r_move_as (v := (.bool (decide ((val dx) < 18446744073709551616)))) rfl) ?_
  refine RL.gval rfl rfl (bool_eq hb16) rfl (by decide) (r_not rfl) ?_
  refine rV (r_pick_f (v := (.bool (!(decide ((val dx) < 18446744073709551616))))) (bool_eq hb16) rfl) (mV (v := (.bool (!(decide ((val dx) < 18446744073709551616))))) rfl ?_)
  rcases Bool.eq_false_or_eq_true (!(decide ((val dx) < 18446744073709551616))) with hb17 | hb17
  ·have hb17p := hb17
   refine RL.gno rfl rfl (bool_eq hb17) rfl (by decide) ?_
   refine RL.gno rfl rfl (bool_eq hb17) rfl (by decide) ?_
   refine rV (r_pick_t (v := (.bool true)) (bool_eq hb17) rfl) (mV (v := (.bool true)) rfl ?_)
   refine RL.gno rfl rfl rfl rfl (by decide) ?_
   refine RL.gno rfl rfl rfl rfl (by decide) ?_
   refine rV (r_pick_t (v := (.bool true)) rfl rfl) (aS (v := (.bool true)) rfl (RL.nil ?_))
   refine wcond_t rfl ?_
   refine wsr (aS (v := (.int .i64 0)) rfl (aS (v := (.int .i64 0)) rfl (aS (v := (.bool false)) rfl (RL.nil ?_))))
   refine wret ?_
   refine ⟨[(.int .i64 0), (.int .i64 0), (.bool false)], ⟨rfl, ⟨rfl, ⟨rfl, trivial⟩⟩⟩, ?_⟩
   exact ⟨⟨_, _, _, rfl, fun h => by cases h⟩, hE⟩
  ·have hb17p := hb17
   have hd64 : val dx < 18446744073709551616 := by first | (simpa using hb17) | (have h8 := hb17p; simpa using h8)
   refine RL.gval rfl rfl (bool_eq hb17) rfl (by decide) (r_move_as (v := (.int .u64 (((if (val x) < 18446744073709551616 then (val x) else 0 : Nat) : Int)))) rfl) ?_
   refine RL.gval rfl rfl (bool_eq hb17) rfl (by decide) (r_geq (k := .u64) (a := ((if (val x) < 18446744073709551616 then (val x) else 0 : Nat) : Int)) (b := 2147483648) rfl rfl) ?_
   refine rV (r_pick_f (v := (.bool (decide (2147483648 ≤ ((if (val x) < 18446744073709551616 then (val x) else 0 : Nat) : Int))))) (bool_eq hb17) rfl) (mV (v := (.bool (decide (2147483648 ≤ ((if (val x) < 18446744073709551616 then (val x) else 0 : Nat) : Int))))) rfl ?_)
   rcases Bool.eq_false_or_eq_true (decide (2147483648 ≤ ((if (val x) < 18446744073709551616 then (val x) else 0 : Nat) : Int))) with hb18 | hb18
   ·have hb18p := of_decide_eq_true hb18
    refine RL.gno rfl rfl (bool_eq hb18) rfl (by decide) ?_
    refine RL.gno rfl rfl (bool_eq hb18) rfl (by decide) ?_
    refine rV (r_pick_t (v := (.bool true)) (bool_eq hb18) rfl) (aS (v := (.bool true)) rfl (RL.nil ?_))
    refine wcond_t rfl ?_
    refine wsr (aS (v := (.int .i64 0)) rfl (aS (v := (.int .i64 0)) rfl (aS (v := (.bool false)) rfl (RL.nil ?_))))
    refine wret ?_
    refine ⟨[(.int .i64 0), (.int .i64 0), (.bool false)], ⟨rfl, ⟨rfl, ⟨rfl, trivial⟩⟩⟩, ?_⟩
    exact ⟨⟨_, _, _, rfl, fun h => by cases h⟩, hE⟩
   ·have hb18p := of_decide_eq_false hb18
    have hx31 := hb18p
    rw [if_pos hx64] at hx31
    refine RL.gval rfl rfl (bool_eq hb18) rfl (by decide) (r_move_as (v := (.int .u64 (((if (val dx) < 18446744073709551616 then (val dx) else 0 : Nat) : Int)))) rfl) ?_
    refine RL.gval rfl rfl (bool_eq hb18) rfl (by decide) (r_geq (k := .u64) (a := ((if (val dx) < 18446744073709551616 then (val dx) else 0 : Nat) : Int)) (b := 2147483648) rfl rfl) ?_
    refine rV (r_pick_f (v := (.bool (decide (2147483648 ≤ ((if (val dx) < 18446744073709551616 then (val dx) else 0 : Nat) : Int))))) (bool_eq hb18) rfl) (aS (v := (.bool (decide (2147483648 ≤ ((if (val dx) < 18446744073709551616 then (val dx) else 0 : Nat) : Int))))) rfl (RL.nil ?_))
    refine wcond (b := decide (2147483648 ≤ ((if (val dx) < 18446744073709551616 then (val dx) else 0 : Nat) : Int))) rfl (fun hb19 => ?_) (fun hb19 => ?_)
    ·have hb19p := of_decide_eq_true hb19
     refine wsr (aS (v := (.int .i64 0)) rfl (aS (v := (.int .i64 0)) rfl (aS (v := (.bool false)) rfl (RL.nil ?_))))
     refine wret ?_
     refine ⟨[(.int .i64 0), (.int .i64 0), (.bool false)], ⟨rfl, ⟨rfl, ⟨rfl, trivial⟩⟩⟩, ?_⟩
     exact ⟨⟨_, _, _, rfl, fun h => by cases h⟩, hE⟩
    ·have hb19p := of_decide_eq_false hb19
     have hd31 := hb19p
     rw [if_pos hd64] at hd31
     refine wsr (mV (v := (.int .u64 (((if (val dx) < 18446744073709551616 then (val dx) else 0 : Nat) : Int)))) rfl (rV (r_eql (k := .u64) (a := ((if (val dx) < 18446744073709551616 then (val dx) else 0 : Nat) : Int)) (b := 0) rfl rfl) (aS (v := (.bool (decide (((if (val dx) < 18446744073709551616 then (val dx) else 0 : Nat) : Int) = 0)))) rfl (RL.nil ?_))))
     refine wcond (b := decide (((if (val dx) < 18446744073709551616 then (val dx) else 0 : Nat) : Int) = 0)) rfl (fun hb20 => ?_) (fun hb20 => ?_)
     ·have hb20p := of_decide_eq_true hb20
      have hz : val dx = 0 := by have h8 := hb20p; rw [if_pos hd64] at h8; omega
      refine wsr (aS (v := (.int .i64 0)) rfl (aS (v := (.int .i64 1)) rfl (aS (v := (.bool true)) rfl (RL.nil ?_))))
      refine wret ?_
      refine ⟨[(.int .i64 0), (.int .i64 1), (.bool true)], ⟨rfl, ⟨rfl, ⟨rfl, trivial⟩⟩⟩, ?_⟩
      exact ⟨⟨_, _, _, rfl, fun _ => ⟨by decide, by decide, by decide, by decide, by rw [← ex, hz, ratOf_den0]; exact Rat.zero_divInt _⟩⟩, hE⟩
     ·have hb20p := of_decide_eq_false hb20
      have hz : val dx ≠ 0 := by have h8 := hb20p; rw [if_pos hd64] at h8; omega
      refine wsr (rV (r_fieldAddr underlying44 rfl ty42 rfl) (rV (r_fieldAddr underlying42 rfl ty4 rfl) ?_))
      replace hb4 := hb4.ext he13
      have hc21 := hb4.cell (j := 0) (u := (.bool sx)) rfl
      refine rV (r_load underlying4 ag4 rfl hc21) (aS (v := (.bool sx)) rfl (RL.nil ?_))
      refine wcond (b := sx) rfl (fun hb22 => ?_) (fun hb22 => ?_)
      ·have hb22p := hb22
       have hsx : sx = true := hb22
       refine wsr (mV (v := (.int .u64 (((if (val x) < 18446744073709551616 then (val x) else 0 : Nat) : Int)))) rfl (rV (r_conv (k := .i64) (a := ((if (val x) < 18446744073709551616 then (val x) else 0 : Nat) : Int)) (c := ((val x : Nat) : Int)) underlying82 underlying2 rfl (by rw [if_pos hx64]; exact wi64 (by omega))) (rV (r_neg (k := .i64) (a := ((val x : Nat) : Int)) (c := -((val x : Nat) : Int)) rfl ((wi64 (by omega)).trans (by omega))) (mV (v := (.int .u64 (((if (val dx) < 18446744073709551616 then (val dx) else 0 : Nat) : Int)))) rfl (rV (r_conv (k := .i64) (a := ((if (val dx) < 18446744073709551616 then (val dx) else 0 : Nat) : Int)) (c := ((val dx : Nat) : Int)) underlying82 underlying2 rfl (by rw [if_pos hd64]; exact wi64 (by omega))) (aS (v := (.int .i64 (-((val x : Nat) : Int)))) rfl (aS (v := (.int .i64 (((val dx : Nat) : Int)))) rfl (aS (v := (.bool true)) rfl (RL.nil ?_)))))))))
       refine wret ?_
       refine ⟨[(.int .i64 (-((val x : Nat) : Int))), (.int .i64 (((val dx : Nat) : Int))), (.bool true)], ⟨rfl, ⟨rfl, ⟨rfl, trivial⟩⟩⟩, ?_⟩
       exact ⟨⟨_, _, _, rfl, fun _ => ⟨by omega, by omega, by omega, by omega, by rw [← ex, hsx]; rfl⟩⟩, hE⟩
      ·have hb22p := hb22
       have hsx : sx = false := hb22
       refine wskip ?_
       refine wsr (mV (v := (.int .u64 (((if (val x) < 18446744073709551616 then (val x) else 0 : Nat) : Int)))) rfl (rV (r_conv (k := .i64) (a := ((if (val x) < 18446744073709551616 then (val x) else 0 : Nat) : Int)) (c := ((val x : Nat) : Int)) underlying82 underlying2 rfl (by rw [if_pos hx64]; exact wi64 (by omega))) (mV (v := (.int .u64 (((if (val dx) < 18446744073709551616 then (val dx) else 0 : Nat) : Int)))) rfl (rV (r_conv (k := .i64) (a := ((if (val dx) < 18446744073709551616 then (val dx) else 0 : Nat) : Int)) (c := ((val dx : Nat) : Int)) underlying82 underlying2 rfl (by rw [if_pos hd64]; exact wi64 (by omega))) (aS (v := (.int .i64 (((val x : Nat) : Int)))) rfl (aS (v := (.int .i64 (((val dx : Nat) : Int)))) rfl (aS (v := (.bool true)) rfl (RL.nil ?_))))))))
       refine wret ?_
       refine ⟨[(.int .i64 (((val x : Nat) : Int))), (.int .i64 (((val dx : Nat) : Int))), (.bool true)], ⟨rfl, ⟨rfl, ⟨rfl, trivial⟩⟩⟩, ?_⟩
       exact ⟨⟨_, _, _, rfl, fun _ => ⟨by omega, by omega, by omega, by omega, by rw [← ex, hsx]; rfl⟩⟩, hE⟩
set_option maxHeartbeats 1000000 in
theorem q_quot {w : World} {n d : Int} (hn : -9223372036854775807 ≤ n ∧ n ≤ 9223372036854775807) (hd : 0 < d ∧ d ≤ 9223372036854775807) :
    Calls Tryz.prog 70 #[(.int .i64 (n)), (.int .i64 (d))] w fun e w' => ∃ v, e = .returned v ∧ (∃ vn vd, v = .agg #[.bool (decide ((Rat.divInt n d).num < 0)), vn, vd] ∧ Sg (gN .u32) (fun b T => w.heap.size ≤ b ∧ T = 96) w' vn (digs (Rat.divInt n d).num.natAbs) ∧ Sg (gN .u32) (fun b T => w.heap.size ≤ b ∧ T = 96) w' vd (digs (Rat.divInt n d).den) ∧ (digs (Rat.divInt n d).num.natAbs).length ≤ 2 ∧ (digs (Rat.divInt n d).den).length ≤ 2) ∧ Ext w w' := by
 have hE : Below w.heap.size w w := Below.refl _ _
 refine calls_of (n := 36) (rs := [.cell 4 44]) func70 rfl rfl rfl (Nat.le_of_ble_eq_true rfl) ?_
 refine wset fun F0 hF0 => ?_
 refine wsr ?_
 refine rU (h_alloc (cs := [(.bool false), (.slice none 0 0), (.slice none 0 0)]) ty44 rfl) ?_
 rintro _ w1 ⟨b2, rfl, hs5, hb4, he3⟩
 have ge_b2 := hE.ge hs5
 replace hE := hE.nx he3
 refine RL.nil (wsr (mV (v := (.int .i64 (n))) (hF0 0) (rV (r_conv (k := .u64) (a := n) (c := n % 18446744073709551616) underlying2 underlying82 rfl (wu64m _)) (aS (v := (.int .u64 (n % 18446744073709551616))) rfl (RL.nil ?_)))))
 refine wset fun F6 hF7 => ?_
 refine wcut (fun fl wl => Off [5, 10, 11, 12, 13] F6 fl ∧ fl 5 = (.int .u64 (((n.natAbs : Nat) : Int))) ∧ (Below w.heap.size w wl) ∧ (Bk wl b2 44 [(.bool false), (.slice none 0 0), (.slice none 0 0)])) ?_ ?_
 ·have hoff8 := Off.refl [5, 10, 11, 12, 13] F6
  refine wsr (mV (v := (.int .i64 (n))) ((hF7 0).trans (hF0 0)) (rV (r_lss (k := .i64) (a := n) (b := 0) rfl rfl) (RL.nil ?_)))
  refine wcond (b := decide (n < 0)) rfl (fun hb9 => ?_) (fun hb9 => ?_)
  ·have hb9p := of_decide_eq_true hb9
   refine wregion (mV (v := (.int .u64 (n % 18446744073709551616))) (hF7 5) (rV (r_neg (k := .u64) (a := n % 18446744073709551616) (c := ((n.natAbs : Nat) : Int)) rfl (by rw [wu64m]; omega)) (aS (v := (.int .u64 (((n.natAbs : Nat) : Int)))) rfl (RL.nil ?_))))
   refine ⟨?_, ?_, ?_, ?_⟩
   · exact (by repeat (first | exact hoff8 | refine Off.st ?_ (by decide) _))
   · first | rfl | exact int_eq (by omega)
   · exact hE
   · exact hb4
  ·have hb9p := of_decide_eq_false hb9
   refine wskip ?_
   refine ⟨?_, ?_, ?_, ?_⟩
   · exact (by repeat (first | exact hoff8 | refine Off.st ?_ (by decide) _))
   · refine ((hF7 5)).trans ?_
     first | rfl | exact int_eq (by omega)
   · exact hE
   · exact hb4
 ·clear hE hb4
  rintro f10 w11 ⟨hoff12, hs13, hE, hb4⟩
  refine wsr (mV (v := (.int .i64 (d))) ((hoff12 1 rfl).trans ((hF7 1).trans (hF0 1))) (rV (r_conv (k := .u64) (a := d) (c := ((d.natAbs : Nat) : Int)) underlying2 underlying82 rfl ((wu64 (by omega)).trans (by omega))) (mV hs13 (aS (v := (.int .u64 (((d.natAbs : Nat) : Int)))) rfl (aS (v := (.int .u64 (((n.natAbs : Nat) : Int)))) rfl (RL.nil (wseq ?_)))))))
  refine wblock ?_
  refine wset fun F14 hF15 => ?_
  refine wloop (σ := Nat × Nat) (fun (s : Nat × Nat) fl wl => match s with | (g, r) => Off [6, 7, 17, 18, 19, 20, 21, 22] F14 fl ∧ fl 6 = (.int .u64 (g : Int)) ∧ fl 7 = (.int .u64 (r : Int)) ∧ (Nat.gcd g r = Nat.gcd n.natAbs d.natAbs) ∧ (g < 18446744073709551616) ∧ (r < 18446744073709551616) ∧ (Below w.heap.size w wl) ∧ (Bk wl b2 44 [(.bool false), (.slice none 0 0), (.slice none 0 0)])) (fun (s : Nat × Nat) => match s with | (g, r) => r) (d.natAbs, n.natAbs) ?_ ?_
  ·exact ⟨Off.refl _ _, (hF15 6).trans (rfl), (hF15 7).trans (rfl), Nat.gcd_comm _ _, by omega, by omega, hE, hb4⟩
  ·clear hE hb4
   rintro ⟨g, r⟩ f16 w17 ⟨hoff18, hs19, hs20, hg, hg64, hr64, hE, hb4⟩
   refine wseq (wsr (mV hs20 (rV (r_neq (k := .u64) (a := (r : Int)) (b := 0) rfl rfl) (RL.nil ?_))))
   refine wcond (b := decide ((r : Int) ≠ 0)) rfl (fun hb21 => ?_) (fun hb21 => ?_)
   ·have hb21p := of_decide_eq_true hb21
    have hr0 : r ≠ 0 := by omega
    have hdm := Nat.mod_lt g (show 0 < r by omega)
    refine wskip ?_
    refine wblock ?_
    refine wdraw mixed fun w22 he23 => ?_
    replace hE := hE.nx he23
    refine ra 0 rfl (fun _ => r_move_as (v := (.int .u64 (r : Int))) hs20) ?_
    refine ra 1 rfl (fun _ => r_move_as (v := (.int .u64 (g : Int))) hs19) ?_
    refine ra 2 rfl (fun _ => r_move_as (v := (.int .u64 (r : Int))) hs20) ?_
    refine ra 3 rfl (fun _ => r_rem (k := .u64) (a := (g : Int)) (b := (r : Int)) (c := ((g % r : Nat) : Int)) rfl rfl (by omega) (remN _ _)) ?_
    refine ra 4 rfl (fun _ => r_assign_as (v := (.int .u64 (r : Int))) rfl) ?_
    refine ra 5 rfl (fun _ => r_assign_as (v := (.int .u64 (((g % r : Nat) : Int)))) rfl) ?_
    refine RA.done (by kernel_rfl) ?_
    replace hb4 := hb4.ext he23
    refine ⟨(r, g % r), ⟨?_, ?_, ?_, ?_, ?_, ?_, ?_, ?_⟩, ?_⟩
    · exact (by repeat (first | exact hoff18 | refine Off.st ?_ (by decide) _ | refine Off.via hoff12 (by decide) ?_ | refine Off.eq hF7 ?_))
    · first | rfl | exact int_eq (by omega) | exact bool_eq (by simp)
    · first | rfl | exact int_eq (by omega) | exact bool_eq (by simp)
    · rw [← hg, Nat.gcd_comm, ← Nat.gcd_rec, Nat.gcd_comm]
    · omega
    · omega
    · exact hE
    · exact hb4
    · (try dsimp only)
      omega
   ·have hb21p := of_decide_eq_false hb21
    have hr0 : r = 0 := by omega
    rw [hr0, Nat.gcd_zero_right] at hg
    have hgcd := hg
    have hgp : 0 < g := by rw [hg]; exact Nat.gcd_pos_of_pos_right _ (by omega)
    have hq1 := Nat.div_le_self n.natAbs g
    have hq2 := Nat.div_le_self d.natAbs g
    refine wexit ?_
    refine wseq ?_
    refine wdraw mixed fun w24 he25 => ?_
    replace hE := hE.nx he25
    refine ra 0 rfl (fun _ => r_move_as (v := (.int .i64 (n))) ((hoff18 0 rfl).trans ((hF15 0).trans ((hoff12 0 rfl).trans ((hF7 0).trans (hF0 0)))))) ?_
    refine ra 1 rfl (fun _ => r_lss (k := .i64) (a := n) (b := 0) rfl rfl) ?_
    refine ra 2 rfl (fun _ => r_move_as (v := (.int .u64 (((n.natAbs : Nat) : Int)))) ((hoff18 5 rfl).trans ((hF15 5).trans hs13))) ?_
    refine ra 3 rfl (fun _ => r_move_as (v := (.int .u64 (g : Int))) hs19) ?_
    refine ra 4 rfl (fun _ => r_quo (k := .u64) (a := ((n.natAbs : Nat) : Int)) (b := (g : Int)) (c := ((n.natAbs / g : Nat) : Int)) rfl rfl (by omega) (quoN (by omega))) ?_
    refine ra 7 rfl (fun _ => r_move_as (v := (.int .i64 (d))) ((hoff18 1 rfl).trans ((hF15 1).trans ((hoff12 1 rfl).trans ((hF7 1).trans (hF0 1)))))) ?_
    refine ra 8 rfl (fun _ => r_conv (k := .u64) (a := d) (c := ((d.natAbs : Nat) : Int)) underlying2 underlying82 rfl ((wu64 (by omega)).trans (by omega))) ?_
    refine ra 9 rfl (fun _ => r_move_as (v := (.int .u64 (g : Int))) hs19) ?_
    refine ra 10 rfl (fun _ => r_quo (k := .u64) (a := ((d.natAbs : Nat) : Int)) (b := (g : Int)) (c := ((d.natAbs / g : Nat) : Int)) rfl rfl (by omega) (quoN (by omega))) ?_
    refine RA.all [5] (by kernel_rfl) rfl ?_
    refine RS.call rfl rfl rfl (by decide) (r_call (vl := [(.int .u64 (((n.natAbs / g : Nat) : Int)))]) ent102 rfl) (n_from (by omega)) ?_ RS.nil
    rintro vr28 w26 ⟨hr29, he27⟩
    refine rm he27 ?_
    replace hr29 := hr29.fr hE
    replace hE := hE.nx he27
    have hlv30 := dl_u64 (n := n.natAbs / g) (by omega)
    refine ra 6 rfl (fun _ => r_build (vl := [(0, (.bool (decide (n < 0)))), (1, vr28)]) (cs := [(.bool (decide (n < 0))), vr28]) underlying42 ty42 rfl (pl42 underlying42) (by obtain ⟨_, _, e0_, -, -⟩ := hr29.len; simp only [e0_]; rfl)) ?_
    refine RA.all [11] (by kernel_rfl) rfl ?_
    refine RS.call rfl rfl rfl (by decide) (r_call (vl := [(.int .u64 (((d.natAbs / g : Nat) : Int)))]) ent102 rfl) (n_from (by omega)) ?_ RS.nil
    rintro vr33 w31 ⟨hr34, he32⟩
    refine rm he32 ?_
    replace hr34 := hr34.fr hE
    replace hE := hE.nx he32
    have hlv35 := dl_u64 (n := d.natAbs / g) (by omega)
    refine ra 12 rfl (fun _ => r_build (vl := [(0, (.agg #[(.bool (decide (n < 0))), vr28])), (1, vr33)]) (cs := [(.bool (decide (n < 0))), vr28, vr33]) underlying44 ty44 rfl (pl44 underlying44) (by obtain ⟨_, _, e0_, -, -⟩ := hr34.len; simp only [e0_]; rfl)) ?_
    refine RA.all [13] (by kernel_rfl) rfl ?_
    have hm40 := Ext.trans he25 (Ext.trans he27 he32)
    replace hb4 := hb4.ext hm40
    refine RS.runs rfl rfl rfl (h_store (vv := (.agg #[(.bool (decide (n < 0))), vr28, vr33])) (cs := [(.bool (decide (n < 0))), vr28, vr33]) (o := 0) ty44 ((hoff18 4 rfl).trans ((hF15 4).trans ((hoff12 4 rfl).trans (hF7 4)))) rfl rfl rfl (one_cons rfl (one_cons hr29.one (one_cons hr34.one one_nil))) hb4 (Nat.le_of_ble_eq_true rfl)) ?_ RS.nil
    rintro w36 ⟨hn37, hx38, hz39⟩
    refine ⟨.inr (.inl (by kernel_rfl)), ?_⟩
    replace hE := hE.nb hx38 ge_b2
    have nb_hx38 := (Nb.of hb4 (nu_cons rfl (nu_cons rfl (nu_cons rfl nu_nil))))
    replace hb4 : Bk w36 b2 44 [(.bool (decide (n < 0))), vr28, vr33] := hn37
    refine RA.done (by kernel_rfl) ?_
    refine wret ?_
    refine ⟨[(.agg #[(.bool (decide (n < 0))), vr28, vr33])], ⟨⟨_, _, [(.bool (decide (n < 0))), vr28, vr33], ((hoff18 4 rfl).trans ((hF15 4).trans ((hoff12 4 rfl).trans (hF7 4)))), ⟨_, underlying44⟩, hb4.cells rfl, .inl ⟨ag44, ⟨_, _, ty44⟩, rfl⟩⟩, trivial⟩, ?_⟩
    have hlaw := low_law (z := n) (d := d.natAbs) (by omega)
    rw [← hgcd] at hlaw
    rw [show Rat.divInt n d = Rat.divInt n ((d.natAbs : Nat) : Int) by rw [show ((d.natAbs : Nat) : Int) = d by omega]]
    replace hr29 := (hr29.tr (Sm.ext he32)).apn hx38 nb_hx38
    replace hr34 := hr34.apn hx38 nb_hx38
    exact ⟨⟨_, _, agg3 (decide_eq_decide.2 hlaw.2.2.symm), by rw [hlaw.1]; exact hr29, by rw [hlaw.2.1]; exact hr34, by rw [hlaw.1]; omega, by rw [hlaw.2.1]; omega⟩, hE⟩
end Go.Proofs.YtffgajgibddfmaaGreat
