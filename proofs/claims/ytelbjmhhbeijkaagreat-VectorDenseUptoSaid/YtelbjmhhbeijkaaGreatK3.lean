/- VectorDense, second form: for arguments of bulk at most 1048576 the law returns true and the arguments read as before; no other condition. Part 3 of 8: Nb Nc Nd Ne Nl Mlng Vgm Vgn Nf Ng Mleh Mwin Nh Ni Nj. -/
import Derived.Shelf.Small.Bits
import Derived.Deep.SlicePairs
import Derived.Test.YtelbjmhhbeijkaaGreatK2
set_option linter.unusedVariables false
set_option linter.unusedSimpArgs false
namespace Go.Proofs.YtelbjmhhbeijkaaGreat
open Go.Vg Go.RowKit _root_.Go.Proofs.Tryz
set_option linter.unusedVariables false
open Go.Vm
theorem sb_lt (u c : Nat) : sb u c < 18446744073709551616 := Nat.mod_lt _ dC
theorem wsb {u c : Nat} (hu : u < 18446744073709551616) (hc : c < 18446744073709551616) : IntKind.u64.wrap ((u : Int) - (c : Int)) = (((u + 18446744073709551616 - c) % 18446744073709551616 : Nat) : Int) := by
  rw [wu64m]; omega
theorem shr63 (x : Nat) : (x : Int).fdiv (2 ^ (min (63 : Int).toNat IntKind.u64.bits)) = ((x / 9223372036854775808 : Nat) : Int) := by
  rw [Int.fdiv_eq_ediv_of_nonneg _ dC]
  show (x : Int) / (2 ^ 63 : Int) = _
  omega
set_option maxHeartbeats 1000000 in
theorem n_add {w : World} {Dx : Nat → TypeId → Prop} {vx : Value} {x : List Nat} (hx0 : Sg (gN .u32) Dx w vx x) (lmx : Lm x) (lnx : x.length ≤ 1099511627776) {Dy : Nat → TypeId → Prop} {vy : Value} {y : List Nat} (hy0 : Sg (gN .u32) Dy w vy y) (lmy : Lm y) (lny : y.length ≤ 1099511627776) :
    Calls Tryz.prog 101 #[vx, vy] w fun e w' => ∃ v, e = .returned v ∧ Sg (gN .u32) (fun b T => w.heap.size ≤ b ∧ T = 89) w' v (digs (val x + val y)) ∧ Ext w w' := by
 have hE : Below w.heap.size w w := Below.refl _ _
 have hx := hx0.old
 clear hx0
 have hy := hy0.old
 clear hy0
 have hlvx := dl_val lmx
 have hlvy := dl_val lmy
 refine calls_of (n := 62) (rs := [.tmp 4]) func101 rfl rfl rfl bL ?_
 refine wset fun F0 hF0 => ?_
 refine wsr (aS (v := (.slice none (0) (0))) rfl (RL.nil (wsr (mV (v := vx) (hF0 0) ?_))))
 refine cL ent100 (n_cut hx (by assumption) (by first | omega | (simp; done) | (simp; omega))) rfl ?_
 rintro vr2 _ ⟨hr3, rfl⟩
 have hlv4 := dl_val (x := x) (by assumption)
 refine mV (v := vy) (hF0 1) ?_
 refine cL ent100 (n_cut hy (by assumption) (by first | omega | (simp; done) | (simp; omega))) rfl ?_
 rintro vr6 _ ⟨hr7, rfl⟩
 have hlv8 := dl_val (x := y) (by assumption)
 refine aS (v := vr2) rfl (aS (v := vr6) rfl (RL.nil ?_))
 refine wset fun F9 hF10 => ?_
 refine wcut (fun fl wl => ∃ A : List Nat, ∃ B : List Nat, ∃ va : Value, ∃ vb : Value, Off (rg 0 2 (rg 13 7 [])) F9 fl ∧ fl 0 = va ∧ fl 1 = vb ∧ (Lm A) ∧ (Lm B) ∧ (B.length ≤ A.length) ∧ (A.length ≤ 1099511627776) ∧ (val A + val B = val x + val y) ∧ (Sg (gN .u32) (fun b T => (Dx b T ∨ Dy b T) ∧ b < w.heap.size) wl va A) ∧ (Sg (gN .u32) (fun b T => (Dx b T ∨ Dy b T) ∧ b < w.heap.size) wl vb B) ∧ (Sg (gN .u32) (fun b T => Dx b T ∧ b < w.heap.size) wl vx x) ∧ (Sg (gN .u32) (fun b T => Dy b T ∧ b < w.heap.size) wl vy y) ∧ (Below w.heap.size w wl) ∧ (Sg (gN .u32) (fun b T => Dx b T ∧ b < w.heap.size) wl vr2 (digs (val x))) ∧ (Sg (gN .u32) (fun b T => Dy b T ∧ b < w.heap.size) wl vr6 (digs (val y)))) ?_ ?_
 ·have G11 := Off.refl (rg 0 2 (rg 13 7 [])) F9
  refine wsr (mV (v := vr2) (hF10 0) ?_)
  obtain ⟨A12, c13, hv14, hc15, hc16⟩ := hr3.len
  refine rV (r_len uT40 hv14) (mV (v := vr6) (hF10 1) ?_)
  obtain ⟨A17, c18, hv19, hc20, hc21⟩ := hr7.len
  refine rV (r_len uT40 hv19) (rV (r_lss (k := .i64) (a := (((digs (val x)).length : Nat) : Int)) (b := (((digs (val y)).length : Nat) : Int)) rfl rfl) (RL.nil ?_))
  refine wcD (p := (((digs (val x)).length : Nat) : Int) < (((digs (val y)).length : Nat) : Int)) rfl (fun hb22 hb22p => ?_) (fun hb22 hb22p => ?_)
  ·refine wregion ?_
   refine mV (v := vr6) (hF10 1) (mV (v := vr2) (hF10 0) (aS (v := vr6) rfl (aS (v := vr2) rfl (RL.nil ?_))))
   refine ⟨(digs (val y)), (digs (val x)), vr6, vr2, ?_, ?_, ?_, ?_, ?_, ?_, ?_, ?_, ?_, ?_, ?_, ?_, ?_, ?_, ?_⟩
   · exact (by repeat (first | exact G11 | refine Off.st ?_ dC _))
   · rfl
   · rfl
   · exact digs_lm _
   · exact digs_lm _
   · omega
   · omega
   · simp only [val_digs]; try omega
   · exact hr7.mono (fun b T h => ⟨by first | exact .inl h.1 | exact .inr h.1, h.2⟩)
   · exact hr3.mono (fun b T h => ⟨by first | exact .inl h.1 | exact .inr h.1, h.2⟩)
   · exact hx
   · exact hy
   · exact hE
   · exact hr3
   exact hr7
  refine wskip ?_
  refine ⟨(digs (val x)), (digs (val y)), vr2, vr6, ?_, ?_, ?_, ?_, ?_, ?_, ?_, ?_, ?_, ?_, ?_, ?_, ?_, ?_, ?_⟩
  · exact (by repeat (first | exact G11 | refine Off.st ?_ dC _))
  · refine ((hF10 0)).trans ?_
    rfl
  · refine ((hF10 1)).trans ?_
    rfl
  · exact digs_lm _
  · exact digs_lm _
  · omega
  · omega
  · simp only [val_digs]; try omega
  · exact hr3.mono (fun b T h => ⟨by first | exact .inl h.1 | exact .inr h.1, h.2⟩)
  · exact hr7.mono (fun b T h => ⟨by first | exact .inl h.1 | exact .inr h.1, h.2⟩)
  · exact hx
  · exact hy
  · exact hE
  · exact hr3
  exact hr7
 clear hx hy hE hr3 hr7
 rintro f23 w24 ⟨A, B, va, vb, G25, hs26, hs27, lmA, lmB, hBA, hlA, hsum, hA, hB, hx, hy, hE, hr3, hr7⟩
 refine wsr (mV hs26 ?_)
 obtain ⟨A28, c29, hv30, hc31, hc32⟩ := hA.len
 refine rV (r_len uT40 hv30) (rV (r_add (k := .i64) (a := ((A.length : Nat) : Int)) (b := 1) (c := ((A.length : Nat) : Int) + 1) rfl rfl (wi64 oM)) ?_)
 have hn38 : (((A.length : Nat) : Int) + 1 : Int) = ((A.length + 1 : Nat) : Int) := by omega
 refine rU (h_make1 (n := A.length + 1) uT40 ty89 rfl (int_eq hn38) (int_eq hn38) oM oM) ?_
 rintro _ w33 ⟨b34, rfl, hs37, hb36, he35⟩
 have ge_b34 := hE.ge hs37
 replace hE := hE.nx he35
 replace hb36 := Ar.made (g := (gN .u32)) (z := (0 : Nat)) hb36 rfl
 have hb36l := hb36.lt
 refine aS (v := (.slice (some ⟨b34, 0, none⟩) (A.length + 1) (A.length + 1))) rfl (RL.nil (wsr (aS (v := (.int .u64 0)) rfl (RL.nil (wseq (wsr (mV hs26 (rV (r_len uT40 hv30) (mV (v := (iv 0)) rfl (RL.nil ?_))))))))))
 refine wblock ?_
 refine wset fun F39 hF40 => ?_
 refine wloop (σ := Nat × Nat × List Nat) (fun (s : Nat × Nat × List Nat) fl wl => match s with | (k, c, P) => Off (rg 6 3 (rg 26 28 [])) F39 fl ∧ fl 26 = (iv k) ∧ fl 6 = (.int .u64 (c : Int)) ∧ (k ≤ A.length) ∧ (P.length = k) ∧ (Lm P) ∧ (c ≤ 1) ∧ (val P + 4294967296 ^ k * c = val (A.take k) + val (B.take k)) ∧ (Ar (gN .u32) wl b34 89 0 (fillN P (A.length + 1)) (A.length + 1)) ∧ (Sg (gN .u32) (fun b T => Dx b T ∧ b < w.heap.size) wl vx x) ∧ (Sg (gN .u32) (fun b T => Dy b T ∧ b < w.heap.size) wl vy y) ∧ (Below w.heap.size w wl) ∧ (Sg (gN .u32) (fun b T => Dx b T ∧ b < w.heap.size) wl vr2 (digs (val x))) ∧ (Sg (gN .u32) (fun b T => Dy b T ∧ b < w.heap.size) wl vr6 (digs (val y))) ∧ (Sg (gN .u32) (fun b T => (Dx b T ∨ Dy b T) ∧ b < w.heap.size) wl va A) ∧ (Sg (gN .u32) (fun b T => (Dx b T ∨ Dy b T) ∧ b < w.heap.size) wl vb B)) (fun (s : Nat × Nat × List Nat) => match s with | (k, c, P) => A.length - k) (0, 0, []) ?_ ?_
 ·replace hx := hx.tr (Sm.ext he35)
  replace hy := hy.tr (Sm.ext he35)
  replace hr3 := hr3.tr (Sm.ext he35)
  replace hr7 := hr7.tr (Sm.ext he35)
  replace hA := hA.tr (Sm.ext he35)
  replace hB := hB.tr (Sm.ext he35)
  exact ⟨Off.refl _ _, (hF40 26).trans (rfl), (hF40 6).trans (rfl), Nat.zero_le _, rfl, Lm.nil, Nat.zero_le _, rfl, (by rw [fillN_nil]; exact hb36), hx, hy, hE, hr3, hr7, hA, hB⟩
 clear hx hy hE hr3 hr7 hA hB hb36
 rintro ⟨k, c, P⟩ f41 w42 ⟨G43, hs44, hs45, hk, hP, hLm, hc, hv, hb36, hx, hy, hE, hr3, hr7, hA, hB⟩
 refine wsr (rV (r_lss (k := .i64) (a := (k : Int)) (b := ((A.length : Nat) : Int)) hs44 ((G43 25 rfl).trans (hF40 25))) (RL.nil (wseq ?_)))
 refine wcD (p := (k : Int) < ((A.length : Nat) : Int)) rfl (fun hb46 hb46p => ?_) (fun hb46 hb46p => ?_)
 ·refine wskip ?_
  refine wseq ?_
  refine wblock ?_
  refine wseq ?_
  have hkl : k < A.length := by omega
  have hak := lmA.at hkl
  have hbk := dig_lt lmB k
  refine wregion (mV hs44 ?_)
  obtain ⟨b47, o48, c49, hv50, hc51⟩ := hA.ix (i := (k : Int)) (k) oM oM
  refine rV (r_indexAddr (i := (k : Int)) uT40 ty89 ((((G43 24 rfl).trans (hF40 24))).trans hv50) hs44 oM oM) (rV (r_load (v := (.int .u32 (((A.getD (k) default : Nat) : Int)))) uT89 ag89 rfl hc51) (aS (v := (iv k)) rfl (aS (v := (.int .u32 (((A.getD (k) default : Nat) : Int)))) rfl (RL.nil (wsr (mV hs45 (mV (v := (.int .u32 (((A.getD (k) default : Nat) : Int)))) rfl (rV (r_conv (k := .u64) (a := ((A.getD (k) default : Nat) : Int)) (c := ((A.getD (k) default : Nat) : Int)) uT89 uT73 rfl (wu64 oM)) (rV (r_add (k := .u64) (a := (c : Int)) (b := ((A.getD (k) default : Nat) : Int)) (c := (c : Int) + ((A.getD (k) default : Nat) : Int)) rfl rfl (wu64 oM)) (aS (v := (.int .u64 ((c : Int) + ((A.getD (k) default : Nat) : Int)))) rfl (RL.nil ?_)))))))))))
  refine wset fun F52 hF53 => ?_
  refine wcut (fun fl wl => Off (6 :: (rg 35 11 [])) F52 fl ∧ fl 6 = (.int .u64 ((((c + A.getD k default + dig B k) : Nat) : Int))) ∧ (Sg (gN .u32) (fun b T => Dx b T ∧ b < w.heap.size) wl vx x) ∧ (Sg (gN .u32) (fun b T => Dy b T ∧ b < w.heap.size) wl vy y) ∧ (Below w.heap.size w wl) ∧ (Sg (gN .u32) (fun b T => Dx b T ∧ b < w.heap.size) wl vr2 (digs (val x))) ∧ (Sg (gN .u32) (fun b T => Dy b T ∧ b < w.heap.size) wl vr6 (digs (val y))) ∧ (Sg (gN .u32) (fun b T => (Dx b T ∨ Dy b T) ∧ b < w.heap.size) wl va A) ∧ (Sg (gN .u32) (fun b T => (Dx b T ∨ Dy b T) ∧ b < w.heap.size) wl vb B) ∧ (Ar (gN .u32) wl b34 89 0 (fillN P (A.length + 1)) (A.length + 1))) ?_ ?_
  ·have G54 := Off.refl (6 :: (rg 35 11 [])) F52
   refine wsr (mV (v := (iv k)) (hF53 7) (mV (v := vb) ((hF53 1).trans ((G43 1 rfl).trans ((hF40 1).trans hs27))) ?_))
   obtain ⟨A55, c56, hv57, hc58, hc59⟩ := hB.len
   refine rV (r_len uT40 hv57) (rV (r_lss (k := .i64) (a := (k : Int)) (b := ((B.length : Nat) : Int)) rfl rfl) (RL.nil ?_))
   refine wcD (p := (k : Int) < ((B.length : Nat) : Int)) rfl (fun hb60 hb60p => ?_) (fun hb60 hb60p => ?_)
   ·refine wregion ?_
    refine mV (v := (.int .u64 ((c : Int) + ((A.getD (k) default : Nat) : Int)))) (hF53 6) (mV (v := vb) ((hF53 1).trans ((G43 1 rfl).trans ((hF40 1).trans hs27))) (mV (v := (iv k)) (hF53 7) ?_))
    obtain ⟨b61, o62, c63, hv64, hc65⟩ := hB.ix (i := (k : Int)) (k) oM oM
    refine rV (r_indexAddr (i := (k : Int)) uT40 ty89 hv64 rfl oM oM) (rV (r_load (v := (.int .u32 (((B.getD (k) default : Nat) : Int)))) uT89 ag89 rfl hc65) (rV (r_conv (k := .u64) (a := ((B.getD (k) default : Nat) : Int)) (c := ((B.getD (k) default : Nat) : Int)) uT89 uT73 rfl (wu64 (by have := lmB.at (k := k) oM; omega))) (rV (r_add (k := .u64) (a := (c : Int) + ((A.getD (k) default : Nat) : Int)) (b := ((B.getD (k) default : Nat) : Int)) (c := ((c : Int) + ((A.getD (k) default : Nat) : Int)) + ((B.getD (k) default : Nat) : Int)) rfl rfl (wu64 (by have := lmB.at (k := k) oM; omega))) (aS (v := (.int .u64 (((c : Int) + ((A.getD (k) default : Nat) : Int)) + ((B.getD (k) default : Nat) : Int)))) rfl (RL.nil ?_)))))
    refine ⟨?_, ?_, ?_, ?_, ?_, ?_, ?_, ?_, ?_, ?_⟩
    · exact (by repeat (first | exact G54 | refine Off.st ?_ dC _ | refine Off.via G43 dC ?_ | refine Off.eq hF40 ?_ | refine Off.via G25 dC ?_ | refine Off.eq hF10 ?_))
    · first | exact int_eq (by rw [dig_t (xs := B) oM]; omega) | exact int_eq (by rw [dig_f (xs := B) oM]; omega)
    · exact hx
    · exact hy
    · exact hE
    · exact hr3
    · exact hr7
    · exact hA
    · exact hB
    exact hb36
   refine wskip ?_
   refine ⟨?_, ?_, ?_, ?_, ?_, ?_, ?_, ?_, ?_, ?_⟩
   · exact (by repeat (first | exact G54 | refine Off.st ?_ dC _ | refine Off.via G43 dC ?_ | refine Off.eq hF40 ?_ | refine Off.via G25 dC ?_ | refine Off.eq hF10 ?_))
   · refine ((hF53 6)).trans ?_
     first | exact int_eq (by rw [dig_t (xs := B) oM]; omega) | exact int_eq (by rw [dig_f (xs := B) oM]; omega)
   · exact hx
   · exact hy
   · exact hE
   · exact hr3
   · exact hr7
   · exact hA
   · exact hB
   exact hb36
  clear hx hy hE hr3 hr7 hA hB hb36
  rintro f66 w67 ⟨G68, hs69, hx, hy, hE, hr3, hr7, hA, hB, hb36⟩
  refine wsr (mV (v := (.slice (some ⟨b34, 0, none⟩) (A.length + 1) (A.length + 1))) ((G68 5 rfl).trans ((hF53 5).trans ((G43 5 rfl).trans (hF40 5)))) (mV (v := (iv k)) ((G68 7 rfl).trans (hF53 7)) (mV hs69 (rV (r_conv (k := .u32) (a := (((c + A.getD k default + dig B k) : Nat) : Int)) (c := (((c + A.getD k default + dig B k) % 4294967296 : Nat) : Int)) uT73 uT89 rfl (cu32 _)) (rV (r_indexAddr (i := (k : Int)) uT40 ty89 rfl rfl oM oM) ?_)))))
  refine RL.runs rfl rfl (h_set (g := (gN .u32)) (vv := (.int .u32 ((((c + A.getD k default + dig B k) % 4294967296 : Nat) : Int)))) (u := (c + A.getD k default + dig B k) % 4294967296) (i := (k : Int)) ty89 rfl rfl rfl rfl rfl hb36 (k) oM oM) ?_
  rintro w70 ⟨ha71, hx72⟩
  replace hE := hE.nb hx72 ge_b34
  replace hb36 := ha71
  refine RL.nil (wregion (mV hs69 (rV (r_shr (k := .u64) (a := (((c + A.getD k default + dig B k) : Nat) : Int)) (b := 32) (c := (((c + A.getD k default + dig B k) / 4294967296 : Nat) : Int)) rfl rfl dC (shr32 _)) (aS (v := (.int .u64 ((((c + A.getD k default + dig B k) / 4294967296 : Nat) : Int)))) rfl (RL.nil (wregion (rV (r_add (k := .i64) (a := (k : Int)) (b := 1) (c := (k : Int) + 1) ((G68 26 rfl).trans ((hF53 26).trans hs44)) rfl (wi64 oM)) (mV (v := (iv ((k : Int) + 1))) rfl (RL.nil ?_)))))))))
  replace hx := hx.tr (Sm.exc hx72 (fun _ _ _ _ hd => absurd hd.2 (Nat.not_lt_of_le ge_b34)))
  replace hy := hy.tr (Sm.exc hx72 (fun _ _ _ _ hd => absurd hd.2 (Nat.not_lt_of_le ge_b34)))
  replace hr3 := hr3.tr (Sm.exc hx72 (fun _ _ _ _ hd => absurd hd.2 (Nat.not_lt_of_le ge_b34)))
  replace hr7 := hr7.tr (Sm.exc hx72 (fun _ _ _ _ hd => absurd hd.2 (Nat.not_lt_of_le ge_b34)))
  replace hA := hA.tr (Sm.exc hx72 (fun _ _ _ _ hd => absurd hd.2 (Nat.not_lt_of_le ge_b34)))
  replace hB := hB.tr (Sm.exc hx72 (fun _ _ _ _ hd => absurd hd.2 (Nat.not_lt_of_le ge_b34)))
  refine ⟨(k + 1, (c + A.getD k default + dig B k) / 4294967296, P ++ [(c + A.getD k default + dig B k) % 4294967296]), ⟨?_, ?_, ?_, ?_, ?_, ?_, ?_, ?_, ?_, ?_, ?_, ?_, ?_, ?_, ?_, ?_⟩, ?_⟩
  · exact (by repeat (first | exact G43 | refine Off.st ?_ dC _ | refine Off.via G68 dC ?_ | refine Off.eq hF53 ?_ | refine Off.via G25 dC ?_ | refine Off.eq hF10 ?_))
  · first | rfl | exact int_eq oM | exact bool_eq (by simp)
  · first | rfl | exact int_eq oM | exact bool_eq (by simp)
  · omega
  · rw [List.length_append, hP]; rfl
  · exact hLm.snoc (Nat.mod_lt _ dC)
  · omega
  · rw [val_take_succ hkl, val_take_dig]; exact add_step hP hv
  · rw [fillN_set hP oM] at hb36; exact hb36
  · exact hx
  · exact hy
  · exact hE
  · exact hr3
  · exact hr7
  · exact hA
  · exact hB
  (try dsimp only)
  omega
 refine wexit ?_
 refine wsr (mV (v := (.slice (some ⟨b34, 0, none⟩) (A.length + 1) (A.length + 1))) ((G43 5 rfl).trans (hF40 5)) (mV (v := va) ((G43 0 rfl).trans ((hF40 0).trans hs26)) (rV (r_len uT40 hv30) (mV hs45 (rV (r_conv (k := .u32) (a := (c : Int)) (c := ((c % 4294967296 : Nat) : Int)) uT73 uT89 rfl (cu32 _)) (rV (r_indexAddr (i := ((A.length : Nat) : Int)) uT40 ty89 rfl rfl oM oM) ?_))))))
 refine RL.runs rfl rfl (h_set (g := (gN .u32)) (vv := (.int .u32 (((c % 4294967296 : Nat) : Int)))) (u := c % 4294967296) (i := ((A.length : Nat) : Int)) ty89 rfl rfl rfl rfl rfl hb36 (A.length) oM oM) ?_
 rintro w73 ⟨ha74, hx75⟩
 replace hE := hE.nb hx75 ge_b34
 replace hb36 := ha74
 refine RL.nil (wseq ?_)
 have hka : k = A.length := by omega
 rw [fillN_set oM oM, fillN_full (by simp; omega)] at hb36
 have hfin : val (P ++ [c % 4294967296]) = val x + val y := by
   rw [val_snoc, hP, hka, Nat.mod_eq_of_lt oM, ← hsum]
   rw [hka, List.take_of_length_le (Nat.le_refl _), List.take_of_length_le hBA] at hv
   exact hv
 have hPl := hLm.snoc (x := c % 4294967296) (Nat.mod_lt _ dC)
 refine wregion (mV (v := (.slice (some ⟨b34, 0, none⟩) (A.length + 1) (A.length + 1))) ((G43 5 rfl).trans (hF40 5)) ?_)
 refine cL ent100 (n_cut (hb36.sc (D := (fun b T => w.heap.size ≤ b ∧ T = 89)) (Nat.le_refl _) oM ⟨ge_b34, rfl⟩) hPl (by first | omega | (simp; done) | (simp; omega))) rfl ?_
 rintro vr77 _ ⟨hr78, rfl⟩
 have hlv79 := dl_val (x := (P ++ [c % 4294967296])) hPl
 refine aS (v := vr77) rfl (RL.nil ?_)
 refine wret ?_
 refine ⟨[vr77], ⟨rfl, trivial⟩, ?_⟩
 have hres := hr78
 rw [hfin] at hres
 exact ⟨hres, hE⟩
set_option maxHeartbeats 1000000 in
theorem n_sub {w : World} {Dx : Nat → TypeId → Prop} {vx : Value} {x : List Nat} (hx0 : Sg (gN .u32) Dx w vx x) (lmx : Lm x) (lnx : x.length ≤ 1099511627776) {Dy : Nat → TypeId → Prop} {vy : Value} {y : List Nat} (hy0 : Sg (gN .u32) Dy w vy y) (lmy : Lm y) (lny : y.length ≤ 1099511627776) :
    Calls Tryz.prog 102 #[vx, vy] w fun e w' => ∃ v, e = .returned v ∧ (∃ vr, v = .tuple #[vr, .bool (decide (val y ≤ val x))] ∧ Sg (gN .u32) (fun b T => w.heap.size ≤ b ∧ T = 89) w' vr (digs (val x - val y))) ∧ Ext w w' := by
 have hE : Below w.heap.size w w := Below.refl _ _
 have hx := hx0.old
 clear hx0
 have hy := hy0.old
 clear hy0
 have hlvx := dl_val lmx
 have hlvy := dl_val lmy
 refine calls_of (n := 54) (rs := [.tmp 4, .tmp 5]) func102 rfl rfl rfl bL ?_
 refine wset fun F0 hF0 => ?_
 refine wsr (aS (v := (.slice none (0) (0))) rfl (aS (v := (.bool false)) rfl (RL.nil (wsr (mV (v := vx) (hF0 0) ?_)))))
 refine cL ent100 (n_cut hx (by assumption) (by first | omega | (simp; done) | (simp; omega))) rfl ?_
 rintro vr2 _ ⟨hr3, rfl⟩
 have hlv4 := dl_val (x := x) (by assumption)
 refine mV (v := vy) (hF0 1) ?_
 refine cL ent100 (n_cut hy (by assumption) (by first | omega | (simp; done) | (simp; omega))) rfl ?_
 rintro vr6 _ ⟨hr7, rfl⟩
 have hlv8 := dl_val (x := y) (by assumption)
 refine aS (v := vr2) rfl (aS (v := vr6) rfl (RL.nil (wseq (wsr (mV (v := vr2) rfl (mV (v := vr6) rfl ?_))))))
 refine cL ent67 (n_compare hr3 (digs_lm _) oS hr7 (digs_lm _) oS) rfl ?_
 rintro vq12 w9 ⟨hq11, he10⟩
 simp only [val_digs] at hq11
 subst hq11
 replace hE := hE.nx he10
 refine rV (r_lss (k := .i64) (a := cmpI (((val x) : Nat) : Int) (((val y) : Nat) : Int)) (b := 0) rfl rfl) (RL.nil ?_)
 refine wcD (p := (cmpI (((val x) : Nat) : Int) (((val y) : Nat) : Int)) < 0) rfl (fun hb13 hb13p => ?_) (fun hb13 hb13p => ?_)
 ·have hlt : val x < val y := by have := cmpI_neg.1 hb13p; omega
  refine wsr (aS (v := (.slice none (0) (0))) rfl (aS (v := (.bool false)) rfl (RL.nil ?_)))
  refine wret ?_
  refine ⟨[(.slice none (0) (0)), (.bool false)], ⟨rfl, ⟨rfl, trivial⟩⟩, ?_⟩
  exact ⟨⟨_, by rw [decide_eq_false oM]; rfl, by rw [show val x - val y = 0 by omega]; exact Sg.nil⟩, hE⟩
 have hge : val y ≤ val x := by rcases Nat.lt_or_ge (val x) (val y) with h | h; exact absurd (cmpI_neg.2 oM) hb13p; exact h
 have hlen : (digs (val y)).length ≤ (digs (val x)).length := len_mono hge
 refine wskip ?_
 refine wsr (mV (v := vr2) rfl ?_)
 obtain ⟨A14, c15, hv16, hc17, hc18⟩ := hr3.len
 refine rV (r_len uT40 hv16) ?_
 have hn24 : ((((digs (val x)).length : Nat) : Int) : Int) = (((digs (val x)).length : Nat) : Int) := by omega
 refine rU (h_make1 (n := (digs (val x)).length) uT40 ty89 rfl (int_eq hn24) (int_eq hn24) oM oM) ?_
 rintro _ w19 ⟨b20, rfl, hs23, hb22, he21⟩
 have ge_b20 := hE.ge hs23
 replace hE := hE.nx he21
 replace hb22 := Ar.made (g := (gN .u32)) (z := (0 : Nat)) hb22 rfl
 have hb22l := hb22.lt
 refine aS (v := (.slice (some ⟨b20, 0, none⟩) ((digs (val x)).length) ((digs (val x)).length))) rfl (RL.nil (wsr (aS (v := (.int .u64 0)) rfl (RL.nil (wseq (wsr (mV (v := vr2) rfl (rV (r_len uT40 hv16) (mV (v := (iv 0)) rfl (RL.nil ?_))))))))))
 refine wblock ?_
 refine wset fun F25 hF26 => ?_
 refine wloop (σ := Nat × Nat × List Nat) (fun (s : Nat × Nat × List Nat) fl wl => match s with | (k, c, P) => Off (rg 7 4 (rg 24 28 [])) F25 fl ∧ fl 24 = (iv k) ∧ fl 7 = (.int .u64 (c : Int)) ∧ (k ≤ (digs (val x)).length) ∧ (P.length = k) ∧ (Lm P) ∧ (c ≤ 1) ∧ (val P + val ((digs (val y)).take k) = val ((digs (val x)).take k) + 4294967296 ^ k * c) ∧ (Ar (gN .u32) wl b20 89 0 (fillN P (digs (val x)).length) ((digs (val x)).length)) ∧ (Sg (gN .u32) (fun b T => Dx b T ∧ b < w.heap.size) wl vx x) ∧ (Sg (gN .u32) (fun b T => Dy b T ∧ b < w.heap.size) wl vy y) ∧ (Below w.heap.size w wl) ∧ (Sg (gN .u32) (fun b T => Dx b T ∧ b < w.heap.size) wl vr2 (digs (val x))) ∧ (Sg (gN .u32) (fun b T => Dy b T ∧ b < w.heap.size) wl vr6 (digs (val y)))) (fun (s : Nat × Nat × List Nat) => match s with | (k, c, P) => (digs (val x)).length - k) (0, 0, []) ?_ ?_
 ·replace hx := hx.tr (Sm.ext (Ext.trans he10 he21))
  replace hy := hy.tr (Sm.ext (Ext.trans he10 he21))
  replace hr3 := hr3.tr (Sm.ext (Ext.trans he10 he21))
  replace hr7 := hr7.tr (Sm.ext (Ext.trans he10 he21))
  exact ⟨Off.refl _ _, (hF26 24).trans (rfl), (hF26 7).trans (rfl), Nat.zero_le _, rfl, Lm.nil, Nat.zero_le _, rfl, (by rw [fillN_nil]; exact hb22), hx, hy, hE, hr3, hr7⟩
 clear hx hy hE hr3 hr7 hb22
 rintro ⟨k, c, P⟩ f27 w28 ⟨G29, hs30, hs31, hk, hP, hLm, hc, hv, hb22, hx, hy, hE, hr3, hr7⟩
 refine wsr (rV (r_lss (k := .i64) (a := (k : Int)) (b := (((digs (val x)).length : Nat) : Int)) hs30 ((G29 23 rfl).trans (hF26 23))) (RL.nil (wseq ?_)))
 refine wcD (p := (k : Int) < (((digs (val x)).length : Nat) : Int)) rfl (fun hb32 hb32p => ?_) (fun hb32 hb32p => ?_)
 ·refine wskip ?_
  refine wseq ?_
  refine wblock ?_
  refine wseq ?_
  have hxk := (digs_lm (val x)).at (k := k) oM
  have hyk := dig_lt (digs_lm (val y)) k
  have hsb := sb2_law hxk hc hyk
  refine wregion (mV hs30 ?_)
  obtain ⟨b33, o34, c35, hv36, hc37⟩ := hr3.ix (i := (k : Int)) (k) oM oM
  refine rV (r_indexAddr (i := (k : Int)) uT40 ty89 ((((G29 22 rfl).trans (hF26 22))).trans hv36) hs30 oM oM) (rV (r_load (v := (.int .u32 ((((digs (val x)).getD (k) default : Nat) : Int)))) uT89 ag89 rfl hc37) (aS (v := (iv k)) rfl (aS (v := (.int .u32 ((((digs (val x)).getD (k) default : Nat) : Int)))) rfl (RL.nil (wsr (mV (v := (.int .u32 ((((digs (val x)).getD (k) default : Nat) : Int)))) rfl (rV (r_conv (k := .u64) (a := (((digs (val x)).getD (k) default : Nat) : Int)) (c := (((digs (val x)).getD (k) default : Nat) : Int)) uT89 uT73 rfl (wu64 oM)) (mV hs31 (rV (r_sub (k := .u64) (a := (((digs (val x)).getD (k) default : Nat) : Int)) (b := (c : Int)) (c := ((sb ((digs (val x)).getD k default) c : Nat) : Int)) rfl rfl (wsb oM oM)) (aS (v := (.int .u64 (((sb ((digs (val x)).getD k default) c : Nat) : Int)))) rfl (RL.nil ?_)))))))))))
  refine wset fun F38 hF39 => ?_
  refine wcut (fun fl wl => Off (10 :: (rg 33 11 [])) F38 fl ∧ fl 10 = (.int .u64 ((((sb2 ((digs (val x)).getD k default) c (dig (digs (val y)) k)) : Nat) : Int))) ∧ (Sg (gN .u32) (fun b T => Dx b T ∧ b < w.heap.size) wl vx x) ∧ (Sg (gN .u32) (fun b T => Dy b T ∧ b < w.heap.size) wl vy y) ∧ (Below w.heap.size w wl) ∧ (Sg (gN .u32) (fun b T => Dx b T ∧ b < w.heap.size) wl vr2 (digs (val x))) ∧ (Sg (gN .u32) (fun b T => Dy b T ∧ b < w.heap.size) wl vr6 (digs (val y))) ∧ (Ar (gN .u32) wl b20 89 0 (fillN P (digs (val x)).length) ((digs (val x)).length))) ?_ ?_
  ·have G40 := Off.refl (10 :: (rg 33 11 [])) F38
   refine wsr (mV (v := (iv k)) (hF39 8) (mV (v := vr6) ((hF39 1).trans ((G29 1 rfl).trans (hF26 1))) ?_))
   obtain ⟨A41, c42, hv43, hc44, hc45⟩ := hr7.len
   refine rV (r_len uT40 hv43) (rV (r_lss (k := .i64) (a := (k : Int)) (b := (((digs (val y)).length : Nat) : Int)) rfl rfl) (RL.nil ?_))
   refine wcD (p := (k : Int) < (((digs (val y)).length : Nat) : Int)) rfl (fun hb46 hb46p => ?_) (fun hb46 hb46p => ?_)
   ·refine wregion ?_
    refine mV (v := (.int .u64 (((sb ((digs (val x)).getD k default) c : Nat) : Int)))) (hF39 10) (mV (v := vr6) ((hF39 1).trans ((G29 1 rfl).trans (hF26 1))) (mV (v := (iv k)) (hF39 8) ?_))
    obtain ⟨b47, o48, c49, hv50, hc51⟩ := hr7.ix (i := (k : Int)) (k) oM oM
    refine rV (r_indexAddr (i := (k : Int)) uT40 ty89 hv50 rfl oM oM) (rV (r_load (v := (.int .u32 ((((digs (val y)).getD (k) default : Nat) : Int)))) uT89 ag89 rfl hc51) (rV (r_conv (k := .u64) (a := (((digs (val y)).getD (k) default : Nat) : Int)) (c := (((digs (val y)).getD (k) default : Nat) : Int)) uT89 uT73 rfl (wu64 (by have := (digs_lm (val y)).at (k := k) oM; omega))) (rV (r_sub (k := .u64) (a := ((sb ((digs (val x)).getD k default) c : Nat) : Int)) (b := (((digs (val y)).getD (k) default : Nat) : Int)) (c := ((sb2 ((digs (val x)).getD k default) c ((digs (val y)).getD k default) : Nat) : Int)) rfl rfl (wsb (sb_lt _ _) (by have := (digs_lm (val y)).at (k := k) oM; omega))) (aS (v := (.int .u64 (((sb2 ((digs (val x)).getD k default) c ((digs (val y)).getD k default) : Nat) : Int)))) rfl (RL.nil ?_)))))
    refine ⟨?_, ?_, ?_, ?_, ?_, ?_, ?_, ?_⟩
    · exact (by repeat (first | exact G40 | refine Off.st ?_ dC _ | refine Off.via G29 dC ?_ | refine Off.eq hF26 ?_))
    · first | exact int_eq (by rw [dig_t (xs := digs (val y)) oM]) | exact int_eq (by rw [dig_f (xs := digs (val y)) oM, sb_zero])
    · exact hx
    · exact hy
    · exact hE
    · exact hr3
    · exact hr7
    exact hb22
   refine wskip ?_
   refine ⟨?_, ?_, ?_, ?_, ?_, ?_, ?_, ?_⟩
   · exact (by repeat (first | exact G40 | refine Off.st ?_ dC _ | refine Off.via G29 dC ?_ | refine Off.eq hF26 ?_))
   · refine ((hF39 10)).trans ?_
     first | exact int_eq (by rw [dig_t (xs := digs (val y)) oM]) | exact int_eq (by rw [dig_f (xs := digs (val y)) oM, sb_zero])
   · exact hx
   · exact hy
   · exact hE
   · exact hr3
   · exact hr7
   exact hb22
  clear hx hy hE hr3 hr7 hb22
  rintro f52 w53 ⟨G54, hs55, hx, hy, hE, hr3, hr7, hb22⟩
  refine wsr (mV (v := (.slice (some ⟨b20, 0, none⟩) ((digs (val x)).length) ((digs (val x)).length))) ((G54 6 rfl).trans ((hF39 6).trans ((G29 6 rfl).trans (hF26 6)))) (mV (v := (iv k)) ((G54 8 rfl).trans (hF39 8)) (mV (v := (.int .u64 ((((sb2 ((digs (val x)).getD k default) c (dig (digs (val y)) k)) : Nat) : Int)))) hs55 (rV (r_conv (k := .u32) (a := (((sb2 ((digs (val x)).getD k default) c (dig (digs (val y)) k)) : Nat) : Int)) (c := (((sb2 ((digs (val x)).getD k default) c (dig (digs (val y)) k)) % 4294967296 : Nat) : Int)) uT73 uT89 rfl (cu32 _)) (rV (r_indexAddr (i := (k : Int)) uT40 ty89 rfl rfl oM oM) ?_)))))
  refine RL.runs rfl rfl (h_set (g := (gN .u32)) (vv := (.int .u32 ((((sb2 ((digs (val x)).getD k default) c (dig (digs (val y)) k)) % 4294967296 : Nat) : Int)))) (u := (sb2 ((digs (val x)).getD k default) c (dig (digs (val y)) k)) % 4294967296) (i := (k : Int)) ty89 rfl rfl rfl rfl rfl hb22 (k) oM oM) ?_
  rintro w56 ⟨ha57, hx58⟩
  replace hE := hE.nb hx58 ge_b20
  replace hb22 := ha57
  refine RL.nil (wregion (mV (v := (.int .u64 ((((sb2 ((digs (val x)).getD k default) c (dig (digs (val y)) k)) : Nat) : Int)))) hs55 (rV (r_shr (k := .u64) (a := (((sb2 ((digs (val x)).getD k default) c (dig (digs (val y)) k)) : Nat) : Int)) (b := 63) (c := (((sb2 ((digs (val x)).getD k default) c (dig (digs (val y)) k)) / 9223372036854775808 : Nat) : Int)) rfl rfl dC (shr63 _)) (aS (v := (.int .u64 ((((sb2 ((digs (val x)).getD k default) c (dig (digs (val y)) k)) / 9223372036854775808 : Nat) : Int)))) rfl (RL.nil (wregion (rV (r_add (k := .i64) (a := (k : Int)) (b := 1) (c := (k : Int) + 1) ((G54 24 rfl).trans ((hF39 24).trans hs30)) rfl (wi64 oM)) (mV (v := (iv ((k : Int) + 1))) rfl (RL.nil ?_)))))))))
  replace hx := hx.tr (Sm.exc hx58 (fun _ _ _ _ hd => absurd hd.2 (Nat.not_lt_of_le ge_b20)))
  replace hy := hy.tr (Sm.exc hx58 (fun _ _ _ _ hd => absurd hd.2 (Nat.not_lt_of_le ge_b20)))
  replace hr3 := hr3.tr (Sm.exc hx58 (fun _ _ _ _ hd => absurd hd.2 (Nat.not_lt_of_le ge_b20)))
  replace hr7 := hr7.tr (Sm.exc hx58 (fun _ _ _ _ hd => absurd hd.2 (Nat.not_lt_of_le ge_b20)))
  refine ⟨(k + 1, (if (digs (val x)).getD k default < c + dig (digs (val y)) k then 1 else 0), P ++ [((digs (val x)).getD k default + 4294967296 - (c + dig (digs (val y)) k)) % 4294967296]), ⟨?_, ?_, ?_, ?_, ?_, ?_, ?_, ?_, ?_, ?_, ?_, ?_, ?_, ?_⟩, ?_⟩
  · exact (by repeat (first | exact G29 | refine Off.st ?_ dC _ | refine Off.via G54 dC ?_ | refine Off.eq hF39 ?_))
  · first | rfl | exact int_eq oM | exact bool_eq (by simp)
  · exact int_eq (by rw [hsb.2])
  · omega
  · rw [List.length_append, hP]; rfl
  · exact hLm.snoc (Nat.mod_lt _ dC)
  · split <;> omega
  · rw [val_take_dig, val_take_succ (xs := digs (val x)) oM]; exact sub_step hP hv hxk hyk hc
  · rw [hsb.1, fillN_set hP oM] at hb22; exact hb22
  · exact hx
  · exact hy
  · exact hE
  · exact hr3
  · exact hr7
  (try dsimp only)
  omega
 refine wexit ?_
 refine wseq ?_
 have hkm : k = (digs (val x)).length := by omega
 rw [fillN_full oM] at hb22
 have hfin := sub_fin hLm hP oM oM (by rw [val_digs, val_digs]; exact hge) hv
 rw [val_digs, val_digs] at hfin
 refine wregion (mV (v := (.slice (some ⟨b20, 0, none⟩) ((digs (val x)).length) ((digs (val x)).length))) ((G29 6 rfl).trans (hF26 6)) ?_)
 refine cL ent100 (n_cut (hb22.sc (D := (fun b T => w.heap.size ≤ b ∧ T = 89)) (Nat.le_refl _) oM ⟨ge_b20, rfl⟩) hLm (by first | omega | (simp; done) | (simp; omega))) rfl ?_
 rintro vr60 _ ⟨hr61, rfl⟩
 have hlv62 := dl_val (x := P) hLm
 refine aS (v := vr60) rfl (aS (v := (.bool true)) rfl (RL.nil ?_))
 refine wret ?_
 refine ⟨[vr60, (.bool true)], ⟨rfl, ⟨rfl, trivial⟩⟩, ?_⟩
 have hres := hr61
 rw [hfin] at hres
 exact ⟨⟨_, by rw [decide_eq_true hge]; rfl, hres⟩, hE⟩
end Go.Proofs.YtelbjmhhbeijkaaGreat
namespace Go.Proofs.YtelbjmhhbeijkaaGreat
open Go.Vg Go.RowKit _root_.Go.Proofs.Tryz
set_option linter.unusedVariables false
open Go.Vm
set_option maxHeartbeats 4000000 in
theorem n_mul {w : World} {Dx : Nat → TypeId → Prop} {vx : Value} {x : List Nat} (hx0 : Sg (gN .u32) Dx w vx x) (lmx : Lm x) (lnx : x.length ≤ 1099511627776) {Dy : Nat → TypeId → Prop} {vy : Value} {y : List Nat} (hy0 : Sg (gN .u32) Dy w vy y) (lmy : Lm y) (lny : y.length ≤ 1099511627776) :
    Calls Tryz.prog 70 #[vx, vy] w fun e w' => ∃ v, e = .returned v ∧ Sg (gN .u32) (fun b T => w.heap.size ≤ b ∧ T = 89) w' v (digs (val x * val y)) ∧ Ext w w' := by
 have hE : Below w.heap.size w w := Below.refl _ _
 have hx := hx0.old
 clear hx0
 have hy := hy0.old
 clear hy0
 have hlvx := dl_val lmx
 have hlvy := dl_val lmy
 refine calls_of (n := 81) (rs := [.tmp 4]) func70 rfl rfl rfl bL ?_
 refine wset fun F0 hF0 => ?_
 refine wsr (aS (v := (.slice none (0) (0))) rfl (RL.nil (wsr (mV (v := vx) (hF0 0) ?_))))
 refine cL ent100 (n_cut hx (by assumption) (by first | omega | (simp; done) | (simp; omega))) rfl ?_
 rintro vr2 _ ⟨hr3, rfl⟩
 have hlv4 := dl_val (x := x) (by assumption)
 refine mV (v := vy) (hF0 1) ?_
 refine cL ent100 (n_cut hy (by assumption) (by first | omega | (simp; done) | (simp; omega))) rfl ?_
 rintro vr6 _ ⟨hr7, rfl⟩
 have hlv8 := dl_val (x := y) (by assumption)
 refine aS (v := vr2) rfl (aS (v := vr6) rfl (RL.nil (wseq (wsr (mV (v := vr2) rfl ?_)))))
 obtain ⟨A9, c10, hv11, hc12, hc13⟩ := hr3.len
 refine rV (r_len uT40 hv11) (rV (r_eql (k := .i64) (a := (((digs (val x)).length : Nat) : Int)) (b := 0) rfl rfl) (mV (v := (bd ((((digs (val x)).length : Nat) : Int) = 0))) rfl ?_))
 rcases bD ((((digs (val x)).length : Nat) : Int) = 0) with ⟨hb14, hb14p⟩ | ⟨hb14, hb14p⟩
 ·have hxz : val x = 0 := len_zero.1 (by unfold len; omega)
  refine RL.gno rfl rfl (bool_eq hb14) rfl dC ?_
  refine RL.gno rfl rfl (bool_eq hb14) rfl dC ?_
  refine RL.gno rfl rfl (bool_eq hb14) rfl dC ?_
  refine rV (r_pick_t (v := (.bool true)) (bool_eq hb14) rfl) (RL.nil ?_)
  refine wcond_t rfl ?_
  refine wsr (aS (v := (.slice none (0) (0))) rfl (RL.nil ?_))
  refine wret ?_
  refine ⟨[(.slice none (0) (0))], ⟨rfl, trivial⟩, ?_⟩
  rw [show val x * val y = 0 by first | (rw [hxz, Nat.zero_mul]) | (rw [len_zero.1 (show len (val y) = 0 by unfold len; omega), Nat.mul_zero])]
  exact ⟨Sg.nil, hE⟩
 refine RL.gval rfl rfl (bool_eq hb14) rfl dC (r_move_as (v := vr6) rfl) ?_
 obtain ⟨A15, c16, hv17, hc18, hc19⟩ := hr7.len
 refine RL.gval rfl rfl (bool_eq hb14) rfl dC (r_len uT40 hv17) ?_
 refine RL.gval rfl rfl (bool_eq hb14) rfl dC (r_eql (k := .i64) (a := (((digs (val y)).length : Nat) : Int)) (b := 0) rfl rfl) ?_
 refine rV (r_pick_f (v := (bd ((((digs (val y)).length : Nat) : Int) = 0))) (bool_eq hb14) rfl) (RL.nil ?_)
 refine wcD (p := (((digs (val y)).length : Nat) : Int) = 0) rfl (fun hb20 hb20p => ?_) (fun hb20 hb20p => ?_)
 ·refine wsr ?_
  refine aS (v := (.slice none (0) (0))) rfl (RL.nil ?_)
  refine wret ?_
  refine ⟨[(.slice none (0) (0))], ⟨rfl, trivial⟩, ?_⟩
  rw [show val x * val y = 0 by first | (rw [hxz, Nat.zero_mul]) | (rw [len_zero.1 (show len (val y) = 0 by unfold len; omega), Nat.mul_zero])]
  exact ⟨Sg.nil, hE⟩
 refine wskip ?_
 refine wsr (mV (v := vr2) rfl (rV (r_len uT40 hv11) (mV (v := vr6) rfl (rV (r_len uT40 hv17) (rV (r_add (k := .i64) (a := (((digs (val x)).length : Nat) : Int)) (b := (((digs (val y)).length : Nat) : Int)) (c := (((digs (val x)).length : Nat) : Int) + (((digs (val y)).length : Nat) : Int)) rfl rfl (wi64 oM)) ?_)))))
 have hn26 : ((((digs (val x)).length : Nat) : Int) + (((digs (val y)).length : Nat) : Int) : Int) = (((digs (val x)).length + (digs (val y)).length : Nat) : Int) := by omega
 refine rU (h_make1 (n := (digs (val x)).length + (digs (val y)).length) uT40 ty89 rfl (int_eq hn26) (int_eq hn26) oM oM) ?_
 rintro _ w21 ⟨b22, rfl, hs25, hb24, he23⟩
 have ge_b22 := hE.ge hs25
 replace hE := hE.nx he23
 replace hb24 := Ar.made (g := (gN .u32)) (z := (0 : Nat)) hb24 rfl
 have hb24l := hb24.lt
 refine aS (v := (.slice (some ⟨b22, 0, none⟩) ((digs (val x)).length + (digs (val y)).length) ((digs (val x)).length + (digs (val y)).length))) rfl (RL.nil (wseq (wsr (mV (v := vr2) rfl (rV (r_len uT40 hv11) (mV (v := (iv 0)) rfl (RL.nil ?_)))))))
 refine wblock ?_
 refine wset fun F27 hF28 => ?_
 refine wloop (σ := Nat × List Nat) (fun (s : Nat × List Nat) fl wl => match s with | (i, O) => Off (rg 6 5 (rg 31 48 [])) F27 fl ∧ fl 31 = (iv i) ∧ (i ≤ (digs (val x)).length) ∧ (O.length = (digs (val x)).length + (digs (val y)).length) ∧ (Lm O) ∧ (∀ j, i + (digs (val y)).length ≤ j → j < O.length → O.getD j default = 0) ∧ (val (O.take (i + (digs (val y)).length)) = val ((digs (val x)).take i) * val (digs (val y))) ∧ (Ar (gN .u32) wl b22 89 0 O ((digs (val x)).length + (digs (val y)).length)) ∧ (Sg (gN .u32) (fun b T => Dx b T ∧ b < w.heap.size) wl vx x) ∧ (Sg (gN .u32) (fun b T => Dy b T ∧ b < w.heap.size) wl vy y) ∧ (Below w.heap.size w wl) ∧ (Sg (gN .u32) (fun b T => Dx b T ∧ b < w.heap.size) wl vr2 (digs (val x))) ∧ (Sg (gN .u32) (fun b T => Dy b T ∧ b < w.heap.size) wl vr6 (digs (val y)))) (fun (s : Nat × List Nat) => match s with | (i, O) => (digs (val x)).length - i) (0, List.replicate ((digs (val x)).length + (digs (val y)).length) 0) ?_ ?_
 ·replace hx := hx.tr (Sm.ext he23)
  replace hy := hy.tr (Sm.ext he23)
  replace hr3 := hr3.tr (Sm.ext he23)
  replace hr7 := hr7.tr (Sm.ext he23)
  exact ⟨Off.refl _ _, (hF28 31).trans (rfl), Nat.zero_le _, by simp, Lm.zeros _, (fun j _ hj => by rw [List.getD_eq_getElem?_getD, List.getElem?_replicate]; split <;> rfl), (by rw [List.take_replicate, val_zeros]; simp [val]), hb24, hx, hy, hE, hr3, hr7⟩
 clear hx hy hE hr3 hr7 hb24
 rintro ⟨i, O⟩ f29 w30 ⟨G31, hs32, hi, hOl, hOm, hz, hv, hb24, hx, hy, hE, hr3, hr7⟩
 refine wsr (rV (r_lss (k := .i64) (a := (i : Int)) (b := (((digs (val x)).length : Nat) : Int)) hs32 ((G31 30 rfl).trans (hF28 30))) (RL.nil (wseq ?_)))
 refine wcD (p := (i : Int) < (((digs (val x)).length : Nat) : Int)) rfl (fun hb33 hb33p => ?_) (fun hb33 hb33p => ?_)
 ·refine wskip ?_
  refine wseq ?_
  refine wblock ?_
  refine wseq ?_
  have hxi := (digs_lm (val x)).at (k := i) oM
  refine wregion (mV hs32 ?_)
  obtain ⟨b34, o35, c36, hv37, hc38⟩ := hr3.ix (i := (i : Int)) (i) oM oM
  refine rV (r_indexAddr (i := (i : Int)) uT40 ty89 ((((G31 29 rfl).trans (hF28 29))).trans hv37) hs32 oM oM) (rV (r_load (v := (.int .u32 ((((digs (val x)).getD (i) default : Nat) : Int)))) uT89 ag89 rfl hc38) (aS (v := (iv i)) rfl (aS (v := (.int .u32 ((((digs (val x)).getD (i) default : Nat) : Int)))) rfl (RL.nil (wseq (wsr (mV (v := (.int .u32 ((((digs (val x)).getD (i) default : Nat) : Int)))) rfl (rV (r_eql (k := .u32) (a := (((digs (val x)).getD (i) default : Nat) : Int)) (b := 0) rfl rfl) (RL.nil ?_)))))))))
  refine wcD (p := (((digs (val x)).getD (i) default : Nat) : Int) = 0) rfl (fun hb39 hb39p => ?_) (fun hb39 hb39p => ?_)
  ·have hx0 : (digs (val x)).getD i default = 0 := by have := hb39p; omega
   refine wexit ?_
   refine wregion (rV (r_add (k := .i64) (a := (i : Int)) (b := 1) (c := (i : Int) + 1) hs32 rfl (wi64 oM)) (mV (v := (iv ((i : Int) + 1))) rfl (RL.nil ?_)))
   refine ⟨(i + 1, O), ⟨?_, ?_, ?_, ?_, ?_, ?_, ?_, ?_, ?_, ?_, ?_, ?_, ?_⟩, ?_⟩
   · exact (by repeat (first | exact G31 | refine Off.st ?_ dC _))
   · first | rfl | exact int_eq oM | exact bool_eq (by simp)
   · omega
   · exact hOl
   · exact hOm
   · exact fun j h1 h2 => hz j oM h2
   · exact mul_skip oM hOl hv hz hx0
   · exact hb24
   · exact hx
   · exact hy
   · exact hE
   · exact hr3
   · exact hr7
   (try dsimp only)
   omega
  refine wskip ?_
  refine wsr (aS (v := (.int .u64 0)) rfl (RL.nil (wseq (wsr (mV (v := vr6) ((G31 1 rfl).trans (hF28 1)) (rV (r_len uT40 hv17) (mV (v := (iv 0)) rfl (RL.nil ?_))))))))
  refine wblock ?_
  refine wset fun F40 hF41 => ?_
  refine wloop (σ := Nat × Nat × List Nat) (fun (s : Nat × Nat × List Nat) fl wl => match s with | (k, c, Q) => Off (rg 8 3 (rg 40 30 [])) F40 fl ∧ fl 40 = (iv k) ∧ fl 8 = (.int .u64 (c : Int)) ∧ (k ≤ (digs (val y)).length) ∧ (Q.length = k) ∧ (Lm Q) ∧ (c < 4294967296) ∧ (val Q + 4294967296 ^ k * c = val ((O.drop i).take k) + (digs (val x)).getD i default * val ((digs (val y)).take k)) ∧ (Ar (gN .u32) wl b22 89 0 (rowN O Q i) ((digs (val x)).length + (digs (val y)).length)) ∧ (Sg (gN .u32) (fun b T => Dx b T ∧ b < w.heap.size) wl vx x) ∧ (Sg (gN .u32) (fun b T => Dy b T ∧ b < w.heap.size) wl vy y) ∧ (Below w.heap.size w wl) ∧ (Sg (gN .u32) (fun b T => Dx b T ∧ b < w.heap.size) wl vr2 (digs (val x))) ∧ (Sg (gN .u32) (fun b T => Dy b T ∧ b < w.heap.size) wl vr6 (digs (val y)))) (fun (s : Nat × Nat × List Nat) => match s with | (k, c, Q) => (digs (val y)).length - k) (0, 0, []) ?_ ?_
  ·exact ⟨Off.refl _ _, (hF41 40).trans (rfl), (hF41 8).trans (rfl), Nat.zero_le _, rfl, Lm.nil, by decide, rfl, (by rw [rowN_nil]; exact hb24), hx, hy, hE, hr3, hr7⟩
  clear hx hy hE hr3 hr7 hb24
  rintro ⟨k, c, Q⟩ f42 w43 ⟨G44, hs45, hs46, hk, hQ, hQm, hc, hQv, hb24, hx, hy, hE, hr3, hr7⟩
  refine wsr (rV (r_lss (k := .i64) (a := (k : Int)) (b := (((digs (val y)).length : Nat) : Int)) hs45 ((G44 39 rfl).trans (hF41 39))) (RL.nil (wseq ?_)))
  refine wcD (p := (k : Int) < (((digs (val y)).length : Nat) : Int)) rfl (fun hb47 hb47p => ?_) (fun hb47 hb47p => ?_)
  ·refine wskip ?_
   refine wseq ?_
   refine wblock ?_
   refine wseq ?_
   have hyk := (digs_lm (val y)).at (k := k) oM
   have hok := hOm.at (k := i + k) oM
   have hxy := limb_mul hxi hyk
   obtain ⟨p, hp⟩ : ∃ p, p = (digs (val x)).getD i default * (digs (val y)).getD k default := ⟨_, rfl⟩
   rw [← hp] at hxy
   refine wregion (mV hs45 ?_)
   obtain ⟨b48, o49, c50, hv51, hc52⟩ := hr7.ix (i := (k : Int)) (k) oM oM
   refine rV (r_indexAddr (i := (k : Int)) uT40 ty89 ((((G44 38 rfl).trans (hF41 38))).trans hv51) hs45 oM oM) (rV (r_load (v := (.int .u32 ((((digs (val y)).getD (k) default : Nat) : Int)))) uT89 ag89 rfl hc52) (aS (v := (iv k)) rfl (aS (v := (.int .u32 ((((digs (val y)).getD (k) default : Nat) : Int)))) rfl (RL.nil (wsr (mV hs46 (mV (v := (.int .u32 ((((digs (val x)).getD (i) default : Nat) : Int)))) ((G44 7 rfl).trans (hF41 7)) (rV (r_conv (k := .u64) (a := (((digs (val x)).getD (i) default : Nat) : Int)) (c := (((digs (val x)).getD (i) default : Nat) : Int)) uT89 uT73 rfl (wu64 oM)) (mV (v := (.int .u32 ((((digs (val y)).getD (k) default : Nat) : Int)))) rfl (rV (r_conv (k := .u64) (a := (((digs (val y)).getD (k) default : Nat) : Int)) (c := (((digs (val y)).getD (k) default : Nat) : Int)) uT89 uT73 rfl (wu64 oM)) (rV (r_mul (k := .u64) (a := (((digs (val x)).getD (i) default : Nat) : Int)) (b := (((digs (val y)).getD (k) default : Nat) : Int)) (c := (((digs (val x)).getD i default * (digs (val y)).getD k default : Nat) : Int)) rfl rfl ((wu64 (by rw [← Int.natCast_mul, ← hp]; omega)).trans (by rw [Int.natCast_mul]))) (mV (v := (.slice (some ⟨b22, 0, none⟩) ((digs (val x)).length + (digs (val y)).length) ((digs (val x)).length + (digs (val y)).length))) ((G44 5 rfl).trans ((hF41 5).trans ((G31 5 rfl).trans (hF28 5)))) (mV (v := (iv i)) ((G44 6 rfl).trans (hF41 6)) (mV (v := (iv k)) rfl (rV (r_add (k := .i64) (a := (i : Int)) (b := (k : Int)) (c := (i : Int) + (k : Int)) rfl rfl (wi64 oM)) (rV (r_indexAddr (i := (i : Int) + (k : Int)) uT40 ty89 rfl rfl oM oM) ?_))))))))))))))))
   have hc53 := hb24.cell (i := (i : Int) + (k : Int)) (i + k) oM oM
   rw [show (rowN O Q i).getD (i + k) default = O.getD (i + k) default from (rowN_at hQ oM)] at hc53
   refine rV (r_load (v := (.int .u32 (((O.getD (i + k) default : Nat) : Int)))) uT89 ag89 rfl hc53) (rV (r_conv (k := .u64) (a := ((O.getD (i + k) default : Nat) : Int)) (c := ((O.getD (i + k) default : Nat) : Int)) uT89 uT73 rfl (wu64 oM)) (rV (r_add (k := .u64) (a := (((digs (val x)).getD i default * (digs (val y)).getD k default : Nat) : Int)) (b := ((O.getD (i + k) default : Nat) : Int)) (c := ((O.getD (i + k) default + (digs (val x)).getD i default * (digs (val y)).getD k default : Nat) : Int)) rfl rfl ((wu64 (by rw [← hp]; omega)).trans oM)) (rV (r_add (k := .u64) (a := (c : Int)) (b := ((O.getD (i + k) default + (digs (val x)).getD i default * (digs (val y)).getD k default : Nat) : Int)) (c := ((c + (O.getD (i + k) default + (digs (val x)).getD i default * (digs (val y)).getD k default) : Nat) : Int)) rfl rfl ((wu64 (by rw [← hp]; omega)).trans oM)) (aS (v := (.int .u64 (((c + (O.getD (i + k) default + (digs (val x)).getD i default * (digs (val y)).getD k default) : Nat) : Int)))) rfl (RL.nil (wsr (mV (v := (.slice (some ⟨b22, 0, none⟩) ((digs (val x)).length + (digs (val y)).length) ((digs (val x)).length + (digs (val y)).length))) ((G44 5 rfl).trans ((hF41 5).trans ((G31 5 rfl).trans (hF28 5)))) (mV (v := (iv i)) ((G44 6 rfl).trans (hF41 6)) (mV (v := (iv k)) rfl (rV (r_add (k := .i64) (a := (i : Int)) (b := (k : Int)) (c := (i : Int) + (k : Int)) rfl rfl (wi64 oM)) (mV (v := (.int .u64 (((c + (O.getD (i + k) default + (digs (val x)).getD i default * (digs (val y)).getD k default) : Nat) : Int)))) rfl (rV (r_conv (k := .u32) (a := ((c + (O.getD (i + k) default + (digs (val x)).getD i default * (digs (val y)).getD k default) : Nat) : Int)) (c := (((c + (O.getD (i + k) default + (digs (val x)).getD i default * (digs (val y)).getD k default)) % 4294967296 : Nat) : Int)) uT73 uT89 rfl (cu32 _)) (rV (r_indexAddr (i := (i : Int) + (k : Int)) uT40 ty89 rfl rfl oM oM) ?_)))))))))))))
   refine RL.runs rfl rfl (h_set (g := (gN .u32)) (vv := (.int .u32 ((((c + (O.getD (i + k) default + (digs (val x)).getD i default * (digs (val y)).getD k default)) % 4294967296 : Nat) : Int)))) (u := (c + (O.getD (i + k) default + (digs (val x)).getD i default * (digs (val y)).getD k default)) % 4294967296) (i := (i : Int) + (k : Int)) ty89 rfl rfl rfl rfl rfl hb24 (i + k) oM oM) ?_
   rintro w54 ⟨ha55, hx56⟩
   replace hE := hE.nb hx56 ge_b22
   replace hb24 := ha55
   refine RL.nil (wregion (mV (v := (.int .u64 (((c + (O.getD (i + k) default + (digs (val x)).getD i default * (digs (val y)).getD k default) : Nat) : Int)))) rfl (rV (r_shr (k := .u64) (a := ((c + (O.getD (i + k) default + (digs (val x)).getD i default * (digs (val y)).getD k default) : Nat) : Int)) (b := 32) (c := (((c + (O.getD (i + k) default + (digs (val x)).getD i default * (digs (val y)).getD k default)) / 4294967296 : Nat) : Int)) rfl rfl dC (shr32 _)) (aS (v := (.int .u64 ((((c + (O.getD (i + k) default + (digs (val x)).getD i default * (digs (val y)).getD k default)) / 4294967296 : Nat) : Int)))) rfl (RL.nil (wregion (rV (r_add (k := .i64) (a := (k : Int)) (b := 1) (c := (k : Int) + 1) hs45 rfl (wi64 oM)) (mV (v := (iv ((k : Int) + 1))) rfl (RL.nil ?_)))))))))
   replace hx := hx.tr (Sm.exc hx56 (fun _ _ _ _ hd => absurd hd.2 (Nat.not_lt_of_le ge_b22)))
   replace hy := hy.tr (Sm.exc hx56 (fun _ _ _ _ hd => absurd hd.2 (Nat.not_lt_of_le ge_b22)))
   replace hr3 := hr3.tr (Sm.exc hx56 (fun _ _ _ _ hd => absurd hd.2 (Nat.not_lt_of_le ge_b22)))
   replace hr7 := hr7.tr (Sm.exc hx56 (fun _ _ _ _ hd => absurd hd.2 (Nat.not_lt_of_le ge_b22)))
   refine ⟨(k + 1, (c + (O.getD (i + k) default + (digs (val x)).getD i default * (digs (val y)).getD k default)) / 4294967296, Q ++ [(c + (O.getD (i + k) default + (digs (val x)).getD i default * (digs (val y)).getD k default)) % 4294967296]), ⟨?_, ?_, ?_, ?_, ?_, ?_, ?_, ?_, ?_, ?_, ?_, ?_, ?_, ?_⟩, ?_⟩
   · exact (by repeat (first | exact G44 | refine Off.st ?_ dC _ | refine Off.via G31 dC ?_ | refine Off.eq hF28 ?_))
   · first | rfl | exact int_eq oM | exact bool_eq (by simp)
   · first | rfl | exact int_eq oM | exact bool_eq (by simp)
   · omega
   · rw [List.length_append, hQ]; rfl
   · exact hQm.snoc (Nat.mod_lt _ dC)
   · omega
   · exact mul_row_step hQ oM oM hQv
   · rw [rowN_set hQ oM] at hb24; exact hb24
   · exact hx
   · exact hy
   · exact hE
   · exact hr3
   · exact hr7
   (try dsimp only)
   omega
  refine wexit ?_
  have hky : k = (digs (val y)).length := by omega
  have hQe : val Q + 4294967296 ^ (digs (val y)).length * c = val ((O.drop i).take (digs (val y)).length) + (digs (val x)).getD i default * val (digs (val y)) := by rw [hky, List.take_of_length_le (Nat.le_refl (digs (val y)).length)] at hQv; exact hQv
  refine wregion (mV (v := (.slice (some ⟨b22, 0, none⟩) ((digs (val x)).length + (digs (val y)).length) ((digs (val x)).length + (digs (val y)).length))) ((G44 5 rfl).trans ((hF41 5).trans ((G31 5 rfl).trans (hF28 5)))) (mV (v := (iv i)) ((G44 6 rfl).trans (hF41 6)) (mV (v := vr6) ((G44 1 rfl).trans ((hF41 1).trans ((G31 1 rfl).trans (hF28 1)))) (rV (r_len uT40 hv17) (rV (r_add (k := .i64) (a := (i : Int)) (b := (((digs (val y)).length : Nat) : Int)) (c := (i : Int) + (((digs (val y)).length : Nat) : Int)) rfl rfl (wi64 oM)) (mV hs46 (rV (r_conv (k := .u32) (a := (c : Int)) (c := ((c % 4294967296 : Nat) : Int)) uT73 uT89 rfl (cu32 _)) (rV (r_indexAddr (i := (i : Int) + (((digs (val y)).length : Nat) : Int)) uT40 ty89 rfl rfl oM oM) ?_))))))))
  refine RL.runs rfl rfl (h_set (g := (gN .u32)) (vv := (.int .u32 (((c % 4294967296 : Nat) : Int)))) (u := c) (i := (i : Int) + (((digs (val y)).length : Nat) : Int)) ty89 rfl rfl (int_eq oM) rfl rfl hb24 (i + (digs (val y)).length) oM oM) ?_
  rintro w57 ⟨ha58, hx59⟩
  replace hE := hE.nb hx59 ge_b22
  replace hb24 := ha58
  refine RL.nil (wregion (rV (r_add (k := .i64) (a := (i : Int)) (b := 1) (c := (i : Int) + 1) ((G44 31 rfl).trans ((hF41 31).trans hs32)) rfl (wi64 oM)) (mV (v := (iv ((i : Int) + 1))) rfl (RL.nil ?_))))
  replace hx := hx.tr (Sm.exc hx59 (fun _ _ _ _ hd => absurd hd.2 (Nat.not_lt_of_le ge_b22)))
  replace hy := hy.tr (Sm.exc hx59 (fun _ _ _ _ hd => absurd hd.2 (Nat.not_lt_of_le ge_b22)))
  replace hr3 := hr3.tr (Sm.exc hx59 (fun _ _ _ _ hd => absurd hd.2 (Nat.not_lt_of_le ge_b22)))
  replace hr7 := hr7.tr (Sm.exc hx59 (fun _ _ _ _ hd => absurd hd.2 (Nat.not_lt_of_le ge_b22)))
  refine ⟨(i + 1, rowN O (Q ++ [c]) i), ⟨?_, ?_, ?_, ?_, ?_, ?_, ?_, ?_, ?_, ?_, ?_, ?_, ?_⟩, ?_⟩
  · exact (by repeat (first | exact G31 | refine Off.st ?_ dC _ | refine Off.via G44 dC ?_ | refine Off.eq hF41 ?_))
  · first | rfl | exact int_eq oM | exact bool_eq (by simp)
  · omega
  · rw [length_rowN (by simp; omega)]; exact hOl
  · exact rowN_lm hOm (hQm.snoc oM)
  · exact rowN_zeros (by simp; omega) oM hz
  · exact mul_row (n := 0) oM oM hOl hv hQe
  · rw [rowN_set (k := (digs (val y)).length) oM oM] at hb24; exact hb24
  · exact hx
  · exact hy
  · exact hE
  · exact hr3
  · exact hr7
  (try dsimp only)
  omega
 refine wexit ?_
 refine wseq ?_
 have hix : i = (digs (val x)).length := by omega
 have hfin : val O = val x * val y := by rw [hix, List.take_of_length_le oM, List.take_of_length_le (Nat.le_refl _), val_digs, val_digs] at hv; exact hv
 refine wregion (mV (v := (.slice (some ⟨b22, 0, none⟩) ((digs (val x)).length + (digs (val y)).length) ((digs (val x)).length + (digs (val y)).length))) ((G31 5 rfl).trans (hF28 5)) ?_)
 refine cL ent100 (n_cut (hb24.sc (D := (fun b T => w.heap.size ≤ b ∧ T = 89)) (Nat.le_refl _) oM ⟨ge_b22, rfl⟩) hOm (by first | omega | (simp; done) | (simp; omega))) rfl ?_
 rintro vr61 _ ⟨hr62, rfl⟩
 have hlv63 := dl_val (x := O) hOm
 refine aS (v := vr61) rfl (RL.nil ?_)
 refine wret ?_
 refine ⟨[vr61], ⟨rfl, trivial⟩, ?_⟩
 have hres := hr62
 rw [hfin] at hres
 exact ⟨hres, hE⟩
end Go.Proofs.YtelbjmhhbeijkaaGreat
namespace Go.Proofs.YtelbjmhhbeijkaaGreat
open Go.Vg Go.RowKit _root_.Go.Proofs.Tryz
set_option linter.unusedVariables false
open Go.Vm
theorem shlS {x s : Nat} (hs : s ≤ 31) (hx : x < 4294967296) : IntKind.u64.wrap ((x : Int) * 2 ^ (min (s : Int).toNat IntKind.u64.bits)) = ((x * 2 ^ s : Nat) : Int) := by
  rw [Int.toNat_natCast, show min s IntKind.u64.bits = s from Nat.min_eq_left (Nat.le_trans hs dC)]
  have h := sh_carry (c := 0) hs (Nat.pow_pos dC) hx
  rw [show ((x : Int) * 2 ^ s) = ((x * 2 ^ s : Nat) : Int) by simp]
  generalize x * 2 ^ s = p at *
  exact wu64 oM
theorem orS {c x s : Nat} (hc : c < 2 ^ s) (hb : c + x * 2 ^ s < 18446744073709551616) : IntKind.u64.wrap ((BitVec.ofInt IntKind.u64.bits (c : Int) ||| BitVec.ofInt IntKind.u64.bits ((x * 2 ^ s : Nat) : Int)).toNat : Int) = ((c + x * 2 ^ s : Nat) : Int) := by
  show IntKind.u64.wrap ((BitVec.ofInt 64 (c : Int) ||| BitVec.ofInt 64 ((x * 2 ^ s : Nat) : Int)).toNat : Int) = _
  have h1 : c < 2 ^ 64 := by omega
  have h2 : x * 2 ^ s < 2 ^ 64 := by omega
  rw [BitVec.ofInt_natCast, BitVec.ofInt_natCast, BitVec.toNat_or, BitVec.toNat_ofNat, BitVec.toNat_ofNat, Nat.mod_eq_of_lt h1, Nat.mod_eq_of_lt h2, or_low hc]
  generalize c + x * 2 ^ s = p at *
  exact wu64 oM
theorem shrS {x s : Nat} (hs : s ≤ 31) : (x : Int).fdiv (2 ^ (min (s : Int).toNat IntKind.u64.bits)) = ((x / 2 ^ s : Nat) : Int) := by
  rw [Int.toNat_natCast, show min s IntKind.u64.bits = s from Nat.min_eq_left (Nat.le_trans hs dC), Int.fdiv_eq_ediv_of_nonneg _ (Int.le_of_lt (Int.pow_pos dC))]
  simp
theorem orH {x y : Nat} (hx : x < 4294967296) (hy : y < 4294967296) : IntKind.u64.wrap ((BitVec.ofInt IntKind.u64.bits (x : Int) ||| BitVec.ofInt IntKind.u64.bits ((y * 4294967296 : Nat) : Int)).toNat : Int) = ((x + 4294967296 * y : Nat) : Int) := by
  have h := or32 hy hx
  rw [show (x + 4294967296 * y) = y * 4294967296 + x by omega, ← h]
  congr 2
  exact congrArg BitVec.toNat (BitVec.or_comm _ _)
theorem quo31 {s : Nat} (hs : s ≤ 31) : IntKind.i64.wrap ((s : Int).tdiv 32) = 0 := by
  rw [quo32 oM, Nat.div_eq_of_lt oM]; rfl
theorem rem31 {s : Nat} (hs : s ≤ 31) : (s : Int).tmod 32 = (s : Int) := by
  rw [rem32, Nat.mod_eq_of_lt oM]
set_option maxHeartbeats 1000000 in
theorem n_shifted {w : World} {Dx : Nat → TypeId → Prop} {vx : Value} {x : List Nat} (hx0 : Sg (gN .u32) Dx w vx x) (lmx : Lm x) (lnx : x.length ≤ 1099511627776) {sh : Nat} (hs : sh ≤ 31) :
    Calls Tryz.prog 128 #[vx, (iv sh)] w fun e w' => ∃ v, e = .returned v ∧ (∃ b L, v = .slice (some ⟨b, 0, none⟩) (x.length + 1) (x.length + 1) ∧ w.heap.size ≤ b ∧ Ar (gN .u32) w' b 89 0 L (x.length + 1) ∧ Lm L ∧ val L = val x * 2 ^ sh) ∧ Ext w w' := by
 have hE : Below w.heap.size w w := Below.refl _ _
 have hx := hx0.old
 clear hx0
 have hlvx := dl_val lmx
 refine calls_of (n := 41) (rs := [.tmp 4]) func128 rfl rfl rfl bL ?_
 refine wset fun F0 hF0 => ?_
 refine wsr (aS (v := (.slice none (0) (0))) rfl (RL.nil (wsr (mV (v := vx) (hF0 0) ?_))))
 obtain ⟨A1, c2, hv3, hc4, hc5⟩ := hx.len
 refine rV (r_len uT40 hv3) (rV (r_add (k := .i64) (a := ((x.length : Nat) : Int)) (b := 1) (c := ((x.length : Nat) : Int) + 1) rfl rfl (wi64 oM)) ?_)
 have hn11 : (((x.length : Nat) : Int) + 1 : Int) = ((x.length + 1 : Nat) : Int) := by omega
 refine rU (h_make1 (n := x.length + 1) uT40 ty89 rfl (int_eq hn11) (int_eq hn11) oM oM) ?_
 rintro _ w6 ⟨b7, rfl, hs10, hb9, he8⟩
 have ge_b7 := hE.ge hs10
 replace hE := hE.nx he8
 replace hb9 := Ar.made (g := (gN .u32)) (z := (0 : Nat)) hb9 rfl
 have hb9l := hb9.lt
 refine aS (v := (.slice (some ⟨b7, 0, none⟩) (x.length + 1) (x.length + 1))) rfl (RL.nil (wsr (aS (v := (.int .u64 0)) rfl (RL.nil (wseq (wsr (mV (v := vx) (hF0 0) (rV (r_len uT40 hv3) (mV (v := (iv 0)) rfl (RL.nil ?_))))))))))
 refine wblock ?_
 refine wset fun F12 hF13 => ?_
 refine wloop (σ := Nat × Nat × List Nat) (fun (s : Nat × Nat × List Nat) fl wl => match s with | (k, c, P) => Off (rg 6 3 (rg 15 19 [])) F12 fl ∧ fl 15 = (iv k) ∧ fl 6 = (.int .u64 (c : Int)) ∧ (k ≤ x.length) ∧ (P.length = k) ∧ (Lm P) ∧ (c < 2 ^ sh) ∧ (val P + 4294967296 ^ k * c = val (x.take k) * 2 ^ sh) ∧ (Ar (gN .u32) wl b7 89 0 (fillN P (x.length + 1)) (x.length + 1)) ∧ (Sg (gN .u32) (fun b T => Dx b T ∧ b < w.heap.size) wl vx x) ∧ (Below w.heap.size w wl)) (fun (s : Nat × Nat × List Nat) => match s with | (k, c, P) => x.length - k) (0, 0, []) ?_ ?_
 ·replace hx := hx.tr (Sm.ext he8)
  exact ⟨Off.refl _ _, (hF13 15).trans (rfl), (hF13 6).trans (rfl), Nat.zero_le _, rfl, Lm.nil, Nat.pow_pos dC, (by simp [val]), (by rw [fillN_nil]; exact hb9), hx, hE⟩
 clear hx hE hb9
 rintro ⟨k, c, P⟩ f14 w15 ⟨G16, hs17, hs18, hk, hP, hLm, hc, hv, hb9, hx, hE⟩
 refine wsr (rV (r_lss (k := .i64) (a := (k : Int)) (b := ((x.length : Nat) : Int)) hs17 ((G16 14 rfl).trans (hF13 14))) (RL.nil (wseq ?_)))
 refine wcD (p := (k : Int) < ((x.length : Nat) : Int)) rfl (fun hb19 hb19p => ?_) (fun hb19 hb19p => ?_)
 ·refine wskip ?_
  refine wseq ?_
  refine wblock ?_
  refine wseq ?_
  have hkl : k < x.length := by omega
  have hxk := lmx.at hkl
  have hcr := sh_carry hs hc hxk
  refine wregion (mV hs17 ?_)
  obtain ⟨b20, o21, c22, hv23, hc24⟩ := hx.ix (i := (k : Int)) (k) oM oM
  refine rV (r_indexAddr (i := (k : Int)) uT40 ty89 ((((G16 13 rfl).trans (hF13 13))).trans hv23) hs17 oM oM) (rV (r_load (v := (.int .u32 (((x.getD (k) default : Nat) : Int)))) uT89 ag89 rfl hc24) (aS (v := (iv k)) rfl (aS (v := (.int .u32 (((x.getD (k) default : Nat) : Int)))) rfl (RL.nil (wsr (mV hs18 (mV (v := (.int .u32 (((x.getD (k) default : Nat) : Int)))) rfl (rV (r_conv (k := .u64) (a := ((x.getD (k) default : Nat) : Int)) (c := ((x.getD (k) default : Nat) : Int)) uT89 uT73 rfl (wu64 oM)) (mV (v := (iv sh)) ((G16 1 rfl).trans ((hF13 1).trans (hF0 1))) (rV (r_shl (k := .u64) (a := ((x.getD (k) default : Nat) : Int)) (b := (sh : Int)) (c := ((x.getD k default * 2 ^ sh : Nat) : Int)) rfl rfl oM (shlS hs hxk)) (rV (r_or (k := .u64) (a := (c : Int)) (b := ((x.getD k default * 2 ^ sh : Nat) : Int)) (c := (((c + x.getD k default * 2 ^ sh) : Nat) : Int)) rfl rfl (orS hc (by have := hcr.1; omega))) (aS (v := (.int .u64 ((((c + x.getD k default * 2 ^ sh) : Nat) : Int)))) rfl (RL.nil (wsr (mV (v := (.slice (some ⟨b7, 0, none⟩) (x.length + 1) (x.length + 1))) ((G16 5 rfl).trans (hF13 5)) (mV (v := (iv k)) rfl (mV (v := (.int .u64 ((((c + x.getD k default * 2 ^ sh) : Nat) : Int)))) rfl (rV (r_conv (k := .u32) (a := (((c + x.getD k default * 2 ^ sh) : Nat) : Int)) (c := (((c + x.getD k default * 2 ^ sh) % 4294967296 : Nat) : Int)) uT73 uT89 rfl (cu32 _)) (rV (r_indexAddr (i := (k : Int)) uT40 ty89 rfl rfl oM oM) ?_)))))))))))))))))))
  refine RL.runs rfl rfl (h_set (g := (gN .u32)) (vv := (.int .u32 ((((c + x.getD k default * 2 ^ sh) % 4294967296 : Nat) : Int)))) (u := (c + x.getD k default * 2 ^ sh) % 4294967296) (i := (k : Int)) ty89 rfl rfl rfl rfl rfl hb9 (k) oM oM) ?_
  rintro w25 ⟨ha26, hx27⟩
  replace hE := hE.nb hx27 ge_b7
  replace hb9 := ha26
  refine RL.nil (wregion (mV (v := (.int .u64 ((((c + x.getD k default * 2 ^ sh) : Nat) : Int)))) rfl (rV (r_shr (k := .u64) (a := (((c + x.getD k default * 2 ^ sh) : Nat) : Int)) (b := 32) (c := (((c + x.getD k default * 2 ^ sh) / 4294967296 : Nat) : Int)) rfl rfl dC (shr32 _)) (aS (v := (.int .u64 ((((c + x.getD k default * 2 ^ sh) / 4294967296 : Nat) : Int)))) rfl (RL.nil (wregion (rV (r_add (k := .i64) (a := (k : Int)) (b := 1) (c := (k : Int) + 1) hs17 rfl (wi64 oM)) (mV (v := (iv ((k : Int) + 1))) rfl (RL.nil ?_)))))))))
  replace hx := hx.tr (Sm.exc hx27 (fun _ _ _ _ hd => absurd hd.2 (Nat.not_lt_of_le ge_b7)))
  refine ⟨(k + 1, (c + x.getD k default * 2 ^ sh) / 4294967296, P ++ [(c + x.getD k default * 2 ^ sh) % 4294967296]), ⟨?_, ?_, ?_, ?_, ?_, ?_, ?_, ?_, ?_, ?_, ?_⟩, ?_⟩
  · exact (by repeat (first | exact G16 | refine Off.st ?_ dC _))
  · first | rfl | exact int_eq oM | exact bool_eq (by simp)
  · first | rfl | exact int_eq oM | exact bool_eq (by simp)
  · omega
  · rw [List.length_append, hP]; rfl
  · exact hLm.snoc (Nat.mod_lt _ dC)
  · exact hcr.2.1
  · rw [val_take_succ hkl]; exact sh_step hP hv
  · rw [fillN_set hP oM] at hb9; exact hb9
  · exact hx
  · exact hE
  (try dsimp only)
  omega
 refine wexit ?_
 refine wseq ?_
 have hcs := sh_carry (x := 0) hs hc dC
 refine wregion (mV (v := (.slice (some ⟨b7, 0, none⟩) (x.length + 1) (x.length + 1))) ((G16 5 rfl).trans (hF13 5)) (mV (v := vx) ((G16 0 rfl).trans ((hF13 0).trans (hF0 0))) (rV (r_len uT40 hv3) (mV hs18 (rV (r_conv (k := .u32) (a := (c : Int)) (c := ((c % 4294967296 : Nat) : Int)) uT73 uT89 rfl (cu32 _)) (rV (r_indexAddr (i := ((x.length : Nat) : Int)) uT40 ty89 rfl rfl oM oM) ?_))))))
 refine RL.runs rfl rfl (h_set (g := (gN .u32)) (vv := (.int .u32 (((c % 4294967296 : Nat) : Int)))) (u := c % 4294967296) (i := ((x.length : Nat) : Int)) ty89 rfl rfl rfl rfl rfl hb9 (x.length) oM oM) ?_
 rintro w28 ⟨ha29, hx30⟩
 replace hE := hE.nb hx30 ge_b7
 replace hb9 := ha29
 refine RL.nil (wseq ?_)
 have hka : k = x.length := by omega
 rw [fillN_set oM oM, fillN_full (by simp; omega)] at hb9
 have hfin : val (P ++ [c % 4294967296]) = val x * 2 ^ sh := by
   rw [val_snoc, hP, Nat.mod_eq_of_lt oM, hv, hka, List.take_of_length_le (Nat.le_refl _)]
 refine wregion (mV (v := (.slice (some ⟨b7, 0, none⟩) (x.length + 1) (x.length + 1))) ((G16 5 rfl).trans (hF13 5)) (aS (v := (.slice (some ⟨b7, 0, none⟩) (x.length + 1) (x.length + 1))) rfl (RL.nil ?_)))
 refine wret ?_
 refine ⟨[(.slice (some ⟨b7, 0, none⟩) (x.length + 1) (x.length + 1))], ⟨rfl, trivial⟩, ?_⟩
 exact ⟨⟨_, _, rfl, ge_b7, hb9, hLm.snoc (Nat.mod_lt _ dC), hfin⟩, hE⟩
set_option maxHeartbeats 1000000 in
theorem n_shr {w : World} {Dx : Nat → TypeId → Prop} {vx : Value} {x : List Nat} (hx0 : Sg (gN .u32) Dx w vx x) (lmx : Lm x) (lnx : x.length ≤ 1099511627776) {sh : Nat} (hs : sh ≤ 31) :
    Calls Tryz.prog 130 #[vx, (iv sh)] w fun e w' => ∃ v, e = .returned v ∧ (∃ vr, v = .tuple #[vr, .bool true] ∧ Sg (gN .u32) (fun b T => w.heap.size ≤ b ∧ T = 89) w' vr (digs (val x / 2 ^ sh))) ∧ Ext w w' := by
 have hE : Below w.heap.size w w := Below.refl _ _
 have hx := hx0.old
 clear hx0
 have hlvx := dl_val lmx
 refine calls_of (n := 62) (rs := [.tmp 4, .tmp 5]) func130 rfl rfl rfl bL ?_
 refine wset fun F0 hF0 => ?_
 refine wsr (aS (v := (.slice none (0) (0))) rfl (aS (v := (.bool false)) rfl (RL.nil (wseq (wsr (mV (v := (iv sh)) (hF0 1) (rV (r_lss (k := .i64) (a := (sh : Int)) (b := 0) rfl rfl) (RL.nil ?_))))))))
 refine wcD (p := (sh : Int) < 0) rfl (fun hb1 hb1p => ?_) (fun hb1 hb1p => ?_)
 ·exact absurd hb1p oM
 refine wskip ?_
 refine wsr (mV (v := vx) (hF0 0) ?_)
 refine cL ent100 (n_cut hx (by assumption) (by first | omega | (simp; done) | (simp; omega))) rfl ?_
 rintro vr3 _ ⟨hr4, rfl⟩
 have hlv5 := dl_val (x := x) (by assumption)
 refine aS (v := vr3) rfl (RL.nil (wseq (wsr (mV (v := (iv sh)) (hF0 1) (rV (r_quo (k := .i64) (a := (sh : Int)) (b := 32) (c := 0) rfl rfl dC (quo31 hs)) (mV (v := vr3) rfl ?_))))))
 obtain ⟨A6, c7, hv8, hc9, hc10⟩ := hr4.len
 refine rV (r_len uT40 hv8) (rV (r_geq (k := .i64) (a := 0) (b := (((digs (val x)).length : Nat) : Int)) rfl rfl) (RL.nil ?_))
 refine wcD (p := (((digs (val x)).length : Nat) : Int) ≤ 0) rfl (fun hb11 hb11p => ?_) (fun hb11 hb11p => ?_)
 ·have hx0 : val x = 0 := len_zero.1 (by unfold len; omega)
  refine wsr (aS (v := (.slice none (0) (0))) rfl (aS (v := (.bool true)) rfl (RL.nil ?_)))
  refine wret ?_
  refine ⟨[(.slice none (0) (0)), (.bool true)], ⟨rfl, ⟨rfl, trivial⟩⟩, ?_⟩
  exact ⟨⟨_, rfl, by rw [hx0, Nat.zero_div]; exact Sg.nil⟩, hE⟩
 refine wskip ?_
 refine wsr (mV (v := vr3) rfl (mV (v := (iv sh)) (hF0 1) (rV (r_quo (k := .i64) (a := (sh : Int)) (b := 32) (c := 0) rfl rfl dC (quo31 hs)) ?_)))
 have r12 := hr4.drop 0 (Nat.zero_le _) hv8
 rw [List.drop_zero] at r12
 refine rV (r_sl (l := 0) (kk := 0) uT40 ty89 hv8 rfl rfl (Nat.zero_le _)) (aS (v := (.slice (if c7 = 0 then (A6 : Option Addr) else (A6 : Option Addr).map (·.add (0 * 1))) ((digs (val x)).length - 0) (c7 - 0))) rfl (RL.nil (wsr (mV (v := (iv sh)) (hF0 1) (rV (r_rem (k := .i64) (a := (sh : Int)) (b := 32) (c := (sh : Int)) rfl rfl dC (rem31 hs)) (aS (v := (iv sh)) rfl (RL.nil (wsr (mV (v := (.slice (if c7 = 0 then (A6 : Option Addr) else (A6 : Option Addr).map (·.add (0 * 1))) ((digs (val x)).length - 0) (c7 - 0))) rfl ?_)))))))))
 obtain ⟨A13, c14, hv15, hc16, hc17⟩ := r12.len
 refine rV (r_len uT40 hv15) ?_
 have hn23 : ((((digs (val x)).length : Nat) : Int) : Int) = (((digs (val x)).length : Nat) : Int) := by omega
 refine rU (h_make1 (n := (digs (val x)).length) uT40 ty89 rfl (int_eq hn23) (int_eq hn23) oM oM) ?_
 rintro _ w18 ⟨b19, rfl, hs22, hb21, he20⟩
 have ge_b19 := hE.ge hs22
 replace hE := hE.nx he20
 replace hb21 := Ar.made (g := (gN .u32)) (z := (0 : Nat)) hb21 rfl
 have hb21l := hb21.lt
 refine aS (v := (.slice (some ⟨b19, 0, none⟩) ((digs (val x)).length) ((digs (val x)).length))) rfl (RL.nil (wseq (wsr (mV (v := (.slice (if c7 = 0 then (A6 : Option Addr) else (A6 : Option Addr).map (·.add (0 * 1))) ((digs (val x)).length - 0) (c7 - 0))) rfl (rV (r_len uT40 hv15) (mV (v := (iv 0)) rfl (RL.nil ?_)))))))
 refine wblock ?_
 refine wset fun F24 hF25 => ?_
 refine wloop (σ := Nat × List Nat) (fun (s : Nat × List Nat) fl wl => match s with | (k, P) => Off (rg 8 3 (rg 31 29 [])) F24 fl ∧ fl 31 = (iv k) ∧ (k ≤ (digs (val x)).length) ∧ (P.length = k) ∧ (Lm P) ∧ (val P = val x / 2 ^ sh % 4294967296 ^ k) ∧ (Ar (gN .u32) wl b19 89 0 (fillN P (digs (val x)).length) ((digs (val x)).length)) ∧ (Sg (gN .u32) (fun b T => Dx b T ∧ b < w.heap.size) wl vx x) ∧ (Below w.heap.size w wl) ∧ (Sg (gN .u32) (fun b T => Dx b T ∧ b < w.heap.size) wl vr3 (digs (val x))) ∧ (Sg (gN .u32) (fun b T => Dx b T ∧ b < w.heap.size) wl (.slice (if c7 = 0 then (A6 : Option Addr) else (A6 : Option Addr).map (·.add (0 * 1))) ((digs (val x)).length - 0) (c7 - 0)) (digs (val x)))) (fun (s : Nat × List Nat) => match s with | (k, P) => (digs (val x)).length - k) (0, []) ?_ ?_
 ·replace hx := hx.tr (Sm.ext he20)
  replace hr4 := hr4.tr (Sm.ext he20)
  replace r12 := r12.tr (Sm.ext he20)
  exact ⟨Off.refl _ _, (hF25 31).trans (rfl), Nat.zero_le _, rfl, Lm.nil, (by simp [val, Nat.mod_one]), (by rw [fillN_nil]; exact hb21), hx, hE, hr4, r12⟩
 clear hx hE hr4 r12 hb21
 rintro ⟨k, P⟩ f26 w27 ⟨G28, hs29, hk, hP, hLm, hv, hb21, hx, hE, hr4, r12⟩
 refine wsr (rV (r_lss (k := .i64) (a := (k : Int)) (b := (((digs (val x)).length : Nat) : Int)) hs29 ((G28 30 rfl).trans (hF25 30))) (RL.nil (wseq ?_)))
 refine wcD (p := (k : Int) < (((digs (val x)).length : Nat) : Int)) rfl (fun hb30 hb30p => ?_) (fun hb30 hb30p => ?_)
 ·refine wskip ?_
  refine wseq ?_
  refine wblock ?_
  refine wseq ?_
  have hkl : k < (digs (val x)).length := by omega
  have hxk := (digs_lm (val x)).at hkl
  have hd0 := dig_lt (digs_lm (val x)) k
  have hd1 := dig_lt (digs_lm (val x)) (k + 1)
  refine wregion (mV hs29 ?_)
  obtain ⟨b31, o32, c33, hv34, hc35⟩ := r12.ix (i := (k : Int)) (k) oM oM
  refine rV (r_indexAddr (i := (k : Int)) uT40 ty89 ((((G28 29 rfl).trans (hF25 29))).trans hv34) hs29 oM oM) (rV (r_load (v := (.int .u32 ((((digs (val x)).getD (k) default : Nat) : Int)))) uT89 ag89 rfl hc35) (aS (v := (iv k)) rfl (aS (v := (.int .u32 ((((digs (val x)).getD (k) default : Nat) : Int)))) rfl (RL.nil (wsr (mV (v := (.int .u32 ((((digs (val x)).getD (k) default : Nat) : Int)))) rfl (rV (r_conv (k := .u64) (a := (((digs (val x)).getD (k) default : Nat) : Int)) (c := (((digs (val x)).getD (k) default : Nat) : Int)) uT89 uT73 rfl (wu64 oM)) (aS (v := (.int .u64 ((((digs (val x)).getD (k) default : Nat) : Int)))) rfl (RL.nil ?_)))))))))
  refine wset fun F36 hF37 => ?_
  refine wcut (fun fl wl => Off (10 :: (rg 38 14 [])) F36 fl ∧ fl 10 = (.int .u64 ((((dig (digs (val x)) k + 4294967296 * dig (digs (val x)) (k + 1)) : Nat) : Int))) ∧ (Sg (gN .u32) (fun b T => Dx b T ∧ b < w.heap.size) wl vx x) ∧ (Below w.heap.size w wl) ∧ (Sg (gN .u32) (fun b T => Dx b T ∧ b < w.heap.size) wl vr3 (digs (val x))) ∧ (Sg (gN .u32) (fun b T => Dx b T ∧ b < w.heap.size) wl (.slice (if c7 = 0 then (A6 : Option Addr) else (A6 : Option Addr).map (·.add (0 * 1))) ((digs (val x)).length - 0) (c7 - 0)) (digs (val x))) ∧ (Ar (gN .u32) wl b19 89 0 (fillN P (digs (val x)).length) ((digs (val x)).length))) ?_ ?_
  ·have G38 := Off.refl (10 :: (rg 38 14 [])) F36
   refine wsr (mV (v := (iv k)) (hF37 8) (rV (r_add (k := .i64) (a := (k : Int)) (b := 1) (c := (k : Int) + 1) rfl rfl (wi64 oM)) (mV (v := (.slice (if c7 = 0 then (A6 : Option Addr) else (A6 : Option Addr).map (·.add (0 * 1))) ((digs (val x)).length - 0) (c7 - 0))) ((hF37 0).trans ((G28 0 rfl).trans (hF25 0))) (rV (r_len uT40 hv15) (rV (r_lss (k := .i64) (a := (k : Int) + 1) (b := (((digs (val x)).length : Nat) : Int)) rfl rfl) (RL.nil ?_))))))
   refine wcD (p := ((k : Int) + 1) < (((digs (val x)).length : Nat) : Int)) rfl (fun hb39 hb39p => ?_) (fun hb39 hb39p => ?_)
   ·have hxk1 := (digs_lm (val x)).at (k := k + 1) oM
    refine wregion (mV (v := (.int .u64 ((((digs (val x)).getD (k) default : Nat) : Int)))) (hF37 10) (mV (v := (.slice (if c7 = 0 then (A6 : Option Addr) else (A6 : Option Addr).map (·.add (0 * 1))) ((digs (val x)).length - 0) (c7 - 0))) ((hF37 0).trans ((G28 0 rfl).trans (hF25 0))) (mV (v := (iv k)) (hF37 8) (rV (r_add (k := .i64) (a := (k : Int)) (b := 1) (c := (k : Int) + 1) rfl rfl (wi64 oM)) ?_))))
    obtain ⟨b40, o41, c42, hv43, hc44⟩ := r12.ix (i := (k : Int) + 1) (k + 1) oM oM
    refine rV (r_indexAddr (i := (k : Int) + 1) uT40 ty89 hv43 rfl oM oM) (rV (r_load (v := (.int .u32 ((((digs (val x)).getD (k + 1) default : Nat) : Int)))) uT89 ag89 rfl hc44) (rV (r_conv (k := .u64) (a := (((digs (val x)).getD (k + 1) default : Nat) : Int)) (c := (((digs (val x)).getD (k + 1) default : Nat) : Int)) uT89 uT73 rfl (wu64 oM)) (rV (r_shl (k := .u64) (a := (((digs (val x)).getD (k + 1) default : Nat) : Int)) (b := 32) (c := (((digs (val x)).getD (k + 1) default * 4294967296 : Nat) : Int)) rfl rfl dC (shl32 hxk1)) (rV (r_or (k := .u64) (a := (((digs (val x)).getD (k) default : Nat) : Int)) (b := (((digs (val x)).getD (k + 1) default * 4294967296 : Nat) : Int)) (c := (((digs (val x)).getD k default + 4294967296 * (digs (val x)).getD (k + 1) default : Nat) : Int)) rfl rfl (orH hxk hxk1)) (aS (v := (.int .u64 ((((digs (val x)).getD k default + 4294967296 * (digs (val x)).getD (k + 1) default : Nat) : Int)))) rfl (RL.nil ?_))))))
    refine ⟨?_, ?_, ?_, ?_, ?_, ?_, ?_⟩
    · exact (by repeat (first | exact G38 | refine Off.st ?_ dC _ | refine Off.via G28 dC ?_ | refine Off.eq hF25 ?_))
    · first | exact int_eq (by rw [dig_t (xs := digs (val x)) (k := k) oM, dig_t (xs := digs (val x)) (k := k + 1) oM]) | exact int_eq (by rw [dig_t (xs := digs (val x)) (k := k) oM, dig_f (xs := digs (val x)) (k := k + 1) oM]; omega)
    · exact hx
    · exact hE
    · exact hr4
    · exact r12
    exact hb21
   refine wskip ?_
   refine ⟨?_, ?_, ?_, ?_, ?_, ?_, ?_⟩
   · exact (by repeat (first | exact G38 | refine Off.st ?_ dC _ | refine Off.via G28 dC ?_ | refine Off.eq hF25 ?_))
   · refine ((hF37 10)).trans ?_
     first | exact int_eq (by rw [dig_t (xs := digs (val x)) (k := k) oM, dig_t (xs := digs (val x)) (k := k + 1) oM]) | exact int_eq (by rw [dig_t (xs := digs (val x)) (k := k) oM, dig_f (xs := digs (val x)) (k := k + 1) oM]; omega)
   · exact hx
   · exact hE
   · exact hr4
   · exact r12
   exact hb21
  clear hx hE hr4 r12 hb21
  rintro f45 w46 ⟨G47, hs48, hx, hE, hr4, r12, hb21⟩
  refine wregion (mV (v := (.slice (some ⟨b19, 0, none⟩) ((digs (val x)).length) ((digs (val x)).length))) ((G47 7 rfl).trans ((hF37 7).trans ((G28 7 rfl).trans (hF25 7)))) (mV (v := (iv k)) ((G47 8 rfl).trans (hF37 8)) (mV (v := (.int .u64 ((((dig (digs (val x)) k + 4294967296 * dig (digs (val x)) (k + 1)) : Nat) : Int)))) hs48 (mV (v := (iv sh)) ((G47 6 rfl).trans ((hF37 6).trans ((G28 6 rfl).trans (hF25 6)))) (rV (r_shr (k := .u64) (a := (((dig (digs (val x)) k + 4294967296 * dig (digs (val x)) (k + 1)) : Nat) : Int)) (b := (sh : Int)) (c := (((dig (digs (val x)) k + 4294967296 * dig (digs (val x)) (k + 1)) / 2 ^ sh : Nat) : Int)) rfl rfl oM (shrS hs)) (rV (r_conv (k := .u32) (a := (((dig (digs (val x)) k + 4294967296 * dig (digs (val x)) (k + 1)) / 2 ^ sh : Nat) : Int)) (c := ((((dig (digs (val x)) k + 4294967296 * dig (digs (val x)) (k + 1)) / 2 ^ sh) % 4294967296 : Nat) : Int)) uT73 uT89 rfl (cu32 _)) (rV (r_indexAddr (i := (k : Int)) uT40 ty89 rfl rfl oM oM) ?_)))))))
  refine RL.runs rfl rfl (h_set (g := (gN .u32)) (vv := (.int .u32 (((((dig (digs (val x)) k + 4294967296 * dig (digs (val x)) (k + 1)) / 2 ^ sh) % 4294967296 : Nat) : Int)))) (u := ((dig (digs (val x)) k + 4294967296 * dig (digs (val x)) (k + 1)) / 2 ^ sh) % 4294967296) (i := (k : Int)) ty89 rfl rfl rfl rfl rfl hb21 (k) oM oM) ?_
  rintro w49 ⟨ha50, hx51⟩
  replace hE := hE.nb hx51 ge_b19
  replace hb21 := ha50
  refine RL.nil (wregion (rV (r_add (k := .i64) (a := (k : Int)) (b := 1) (c := (k : Int) + 1) ((G47 31 rfl).trans ((hF37 31).trans hs29)) rfl (wi64 oM)) (mV (v := (iv ((k : Int) + 1))) rfl (RL.nil ?_))))
  replace hx := hx.tr (Sm.exc hx51 (fun _ _ _ _ hd => absurd hd.2 (Nat.not_lt_of_le ge_b19)))
  replace hr4 := hr4.tr (Sm.exc hx51 (fun _ _ _ _ hd => absurd hd.2 (Nat.not_lt_of_le ge_b19)))
  replace r12 := r12.tr (Sm.exc hx51 (fun _ _ _ _ hd => absurd hd.2 (Nat.not_lt_of_le ge_b19)))
  refine ⟨(k + 1, P ++ [(dig (digs (val x)) k + 4294967296 * dig (digs (val x)) (k + 1)) / 2 ^ sh % 4294967296]), ⟨?_, ?_, ?_, ?_, ?_, ?_, ?_, ?_, ?_, ?_, ?_⟩, ?_⟩
  · exact (by repeat (first | exact G28 | refine Off.st ?_ dC _ | refine Off.via G47 dC ?_ | refine Off.eq hF37 ?_))
  · first | rfl | exact int_eq oM | exact bool_eq (by simp)
  · omega
  · rw [List.length_append, hP]; rfl
  · exact hLm.snoc (Nat.mod_lt _ dC)
  · rw [shr_digit (digs_lm (val x)) hs, val_digs]; exact low_step hP hv
  · rw [fillN_set hP oM] at hb21; exact hb21
  · exact hx
  · exact hE
  · exact hr4
  · exact r12
  (try dsimp only)
  omega
 refine wexit ?_
 refine wseq ?_
 have hka : k = (digs (val x)).length := by omega
 rw [fillN_full oM] at hb21
 have hfin : val P = val x / 2 ^ sh := by
   rw [hv, Nat.mod_eq_of_lt]
   refine Nat.lt_of_le_of_lt (Nat.div_le_self _ _) ?_
   have h9 := val_lt (digs_lm (val x))
   rw [val_digs, ← hka] at h9
   exact h9
 refine wregion (mV (v := (.slice (some ⟨b19, 0, none⟩) ((digs (val x)).length) ((digs (val x)).length))) ((G28 7 rfl).trans (hF25 7)) ?_)
 refine cL ent100 (n_cut (hb21.sc (D := (fun b T => w.heap.size ≤ b ∧ T = 89)) (Nat.le_refl _) oM ⟨ge_b19, rfl⟩) hLm (by first | omega | (simp; done) | (simp; omega))) rfl ?_
 rintro vr53 _ ⟨hr54, rfl⟩
 have hlv55 := dl_val (x := P) hLm
 refine aS (v := vr53) rfl (aS (v := (.bool true)) rfl (RL.nil ?_))
 refine wret ?_
 refine ⟨[vr53, (.bool true)], ⟨rfl, ⟨rfl, trivial⟩⟩, ?_⟩
 have hres := hr54
 rw [hfin] at hres
 exact ⟨⟨_, rfl, hres⟩, hE⟩
set_option maxHeartbeats 1000000 in
theorem n_dbl {w : World} {Dx : Nat → TypeId → Prop} {vx : Value} {x : List Nat} (hx0 : Sg (gN .u32) Dx w vx x) (lmx : Lm x) (lnx : x.length ≤ 1099511627776) {d : Nat} (hd0 : 0 < d) (hd : d < 4294967296) :
    Calls Tryz.prog 116 #[vx, (.int .u32 (d : Int))] w fun e w' => ∃ v, e = .returned v ∧ (∃ vq vr, v = .tuple #[vq, vr] ∧ Sg (gN .u32) (fun b T => w.heap.size ≤ b ∧ T = 89) w' vq (digs (val x / d)) ∧ Sg (gN .u32) (fun b T => w.heap.size ≤ b ∧ T = 89) w' vr (digs (val x % d))) ∧ Ext w w' := by
 have hE : Below w.heap.size w w := Below.refl _ _
 have hx := hx0.old
 clear hx0
 have hlvx := dl_val lmx
 refine calls_of (n := 42) (rs := [.tmp 4, .tmp 5]) func116 rfl rfl rfl bL ?_
 refine wset fun F0 hF0 => ?_
 refine wsr (aS (v := (.slice none (0) (0))) rfl (aS (v := (.slice none (0) (0))) rfl (RL.nil (wsr (mV (v := vx) (hF0 0) ?_)))))
 obtain ⟨A1, c2, hv3, hc4, hc5⟩ := hx.len
 refine rV (r_len uT40 hv3) ?_
 have hn11 : (((x.length : Nat) : Int) : Int) = ((x.length : Nat) : Int) := by omega
 refine rU (h_make1 (n := x.length) uT40 ty89 rfl (int_eq hn11) (int_eq hn11) oM oM) ?_
 rintro _ w6 ⟨b7, rfl, hs10, hb9, he8⟩
 have ge_b7 := hE.ge hs10
 replace hE := hE.nx he8
 replace hb9 := Ar.made (g := (gN .u32)) (z := (0 : Nat)) hb9 rfl
 have hb9l := hb9.lt
 refine aS (v := (.slice (some ⟨b7, 0, none⟩) (x.length) (x.length))) rfl (RL.nil (wsr (aS (v := (.int .u64 0)) rfl (RL.nil (wseq (wsr (mV (v := vx) (hF0 0) (rV (r_len uT40 hv3) (rV (r_sub (k := .i64) (a := ((x.length : Nat) : Int)) (b := 1) (c := ((x.length : Nat) : Int) - 1) rfl rfl (wi64 oM)) (aS (v := (iv (((x.length : Nat) : Int) - 1))) rfl (RL.nil ?_)))))))))))
 refine wblock ?_
 refine wset fun F12 hF13 => ?_
 refine wloop (σ := Nat × Nat × List Nat) (fun (s : Nat × Nat × List Nat) fl wl => match s with | (m, r, Q) => Off (rg 6 2 (rg 14 24 [])) F12 fl ∧ fl 7 = (iv ((m : Int) - 1)) ∧ fl 6 = (.int .u64 (r : Int)) ∧ (m ≤ x.length) ∧ (r < d) ∧ (Q.length + m = x.length) ∧ (Lm Q) ∧ (val (x.drop m) = val Q * d + r) ∧ (Ar (gN .u32) wl b7 89 0 (List.replicate m 0 ++ Q) x.length) ∧ (Sg (gN .u32) (fun b T => Dx b T ∧ b < w.heap.size) wl vx x) ∧ (Below w.heap.size w wl)) (fun (s : Nat × Nat × List Nat) => match s with | (m, r, Q) => m) (x.length, 0, []) ?_ ?_
 ·replace hx := hx.tr (Sm.ext he8)
  exact ⟨Off.refl _ _, (hF13 7).trans (rfl), (hF13 6).trans (rfl), Nat.le_refl _, by omega, by simp, Lm.nil, (by rw [List.drop_of_length_le (Nat.le_refl _)]; simp [val]), (by simpa using hb9), hx, hE⟩
 clear hx hE hb9
 rintro ⟨m, r, Q⟩ f14 w15 ⟨G16, hs17, hs18, hm, hr, hQl, hQm, hv, hb9, hx, hE⟩
 refine wseq (wsr (mV hs17 (rV (r_geq (k := .i64) (a := (m : Int) - 1) (b := 0) rfl rfl) (RL.nil ?_))))
 refine wcD (p := 0 ≤ ((m : Int) - 1)) rfl (fun hb19 hb19p => ?_) (fun hb19 hb19p => ?_)
 ·refine wskip ?_
  refine wseq ?_
  refine wblock ?_
  refine wseq ?_
  obtain ⟨n, hmn⟩ : ∃ n, m = n + 1 := ⟨m - 1, by omega⟩
  have hxn := lmx.at (k := n) oM
  have hll := limb_lt hr hd hxn
  refine wregion (mV hs18 (rV (r_shl (k := .u64) (a := (r : Int)) (b := 32) (c := ((r * 4294967296 : Nat) : Int)) rfl rfl dC (shl32 oM)) (mV (v := vx) ((G16 0 rfl).trans ((hF13 0).trans (hF0 0))) (mV hs17 ?_))))
  obtain ⟨b20, o21, c22, hv23, hc24⟩ := hx.ix (i := (m : Int) - 1) (n) oM oM
  refine rV (r_indexAddr (i := (m : Int) - 1) uT40 ty89 hv23 rfl oM oM) (rV (r_load (v := (.int .u32 (((x.getD (n) default : Nat) : Int)))) uT89 ag89 rfl hc24) (rV (r_conv (k := .u64) (a := ((x.getD (n) default : Nat) : Int)) (c := ((x.getD (n) default : Nat) : Int)) uT89 uT73 rfl (wu64 oM)) (rV (r_or (k := .u64) (a := ((r * 4294967296 : Nat) : Int)) (b := ((x.getD (n) default : Nat) : Int)) (c := (((r * 4294967296 + x.getD n default) : Nat) : Int)) rfl rfl (or32 oM hxn)) (aS (v := (.int .u64 ((((r * 4294967296 + x.getD n default) : Nat) : Int)))) rfl (RL.nil (wsr (mV (v := (.slice (some ⟨b7, 0, none⟩) (x.length) (x.length))) ((G16 4 rfl).trans (hF13 4)) (mV hs17 (mV (v := (.int .u64 ((((r * 4294967296 + x.getD n default) : Nat) : Int)))) rfl (mV (v := (.int .u32 (d : Int))) ((G16 1 rfl).trans ((hF13 1).trans (hF0 1))) (rV (r_conv (k := .u64) (a := (d : Int)) (c := (d : Int)) uT89 uT73 rfl (wu64 oM)) (rV (r_quo (k := .u64) (a := (((r * 4294967296 + x.getD n default) : Nat) : Int)) (b := (d : Int)) (c := (((r * 4294967296 + x.getD n default) / d : Nat) : Int)) rfl rfl oM (quoN hll.2)) (rV (r_conv (k := .u32) (a := (((r * 4294967296 + x.getD n default) / d : Nat) : Int)) (c := (((r * 4294967296 + x.getD n default) / d : Nat) : Int)) uT73 uT89 rfl (wu32 (by have h8 := hll.1; generalize (r * 4294967296 + x.getD n default) / d = q9 at *; omega))) (rV (r_indexAddr (i := (m : Int) - 1) uT40 ty89 rfl rfl oM oM) ?_))))))))))))))
  refine RL.runs rfl rfl (h_set (g := (gN .u32)) (vv := (.int .u32 ((((r * 4294967296 + x.getD n default) / d : Nat) : Int)))) (u := (r * 4294967296 + x.getD n default) / d) (i := (m : Int) - 1) ty89 rfl rfl rfl rfl rfl hb9 (n) oM oM) ?_
  rintro w25 ⟨ha26, hx27⟩
  replace hE := hE.nb hx27 ge_b7
  replace hb9 := ha26
  refine RL.nil (wregion (mV (v := (.int .u64 ((((r * 4294967296 + x.getD n default) : Nat) : Int)))) rfl (mV (v := (.int .u32 (d : Int))) ((G16 1 rfl).trans ((hF13 1).trans (hF0 1))) (rV (r_conv (k := .u64) (a := (d : Int)) (c := (d : Int)) uT89 uT73 rfl (wu64 oM)) (rV (r_rem (k := .u64) (a := (((r * 4294967296 + x.getD n default) : Nat) : Int)) (b := (d : Int)) (c := (((r * 4294967296 + x.getD n default) % d : Nat) : Int)) rfl rfl oM (remN _ _)) (aS (v := (.int .u64 ((((r * 4294967296 + x.getD n default) % d : Nat) : Int)))) rfl (RL.nil (wregion (mV hs17 (rV (r_sub (k := .i64) (a := (m : Int) - 1) (b := 1) (c := ((m : Int) - 1) - 1) rfl rfl (wi64 oM)) (aS (v := (iv (((m : Int) - 1) - 1))) rfl (RL.nil ?_))))))))))))
  replace hx := hx.tr (Sm.exc hx27 (fun _ _ _ _ hd => absurd hd.2 (Nat.not_lt_of_le ge_b7)))
  refine ⟨(n, (r * 4294967296 + x.getD n default) % d, (r * 4294967296 + x.getD n default) / d :: Q), ⟨?_, ?_, ?_, ?_, ?_, ?_, ?_, ?_, ?_, ?_, ?_⟩, ?_⟩
  · exact (by repeat (first | exact G16 | refine Off.st ?_ dC _))
  · first | rfl | exact int_eq oM | exact bool_eq (by simp)
  · first | rfl | exact int_eq oM | exact bool_eq (by simp)
  · omega
  · exact Nat.mod_lt _ oM
  · rw [List.length_cons]; omega
  · exact fun z hz => by rcases List.mem_cons.1 hz with rfl | hz; exact hll.1; exact hQm z hz
  · exact limb_step oM oM (by rw [← hmn]; exact hv)
  · rw [hmn, zset] at hb9; exact hb9
  · exact hx
  · exact hE
  (try dsimp only)
  omega
 refine wexit ?_
 refine wseq ?_
 have hm0 : m = 0 := by omega
 rw [hm0, List.replicate_zero, List.nil_append] at hb9
 rw [hm0, List.drop_zero] at hv
 have hfin := div_fin (n := val x) (b := d) hv hr
 refine wregion (mV (v := (.slice (some ⟨b7, 0, none⟩) (x.length) (x.length))) ((G16 4 rfl).trans (hF13 4)) ?_)
 refine cL ent100 (n_cut (hb9.sc (D := (fun b T => w.heap.size ≤ b ∧ T = 89)) (Nat.le_refl _) oM ⟨ge_b7, rfl⟩) hQm (by first | omega | (simp; done) | (simp; omega))) rfl ?_
 rintro vr29 _ ⟨hr30, rfl⟩
 have hlv31 := dl_val (x := Q) hQm
 refine mV hs18 ?_
 refine cL ent90 (n_from oM) rfl ?_
 rintro vr34 w32 ⟨hr35, he33⟩
 replace hr35 := hr35.fr hE
 replace hE := hE.nx he33
 have hlv36 := dl_u64 (n := r) oM
 refine aS (v := vr29) rfl (aS (v := vr34) rfl (RL.nil ?_))
 refine wret ?_
 refine ⟨[vr29, vr34], ⟨rfl, ⟨rfl, trivial⟩⟩, ?_⟩
 replace hr30 := hr30.tr (Sm.ext he33)
 have h1 := hr30
 have h2 := hr35
 rw [hfin.1] at h1
 rw [hfin.2] at h2
 exact ⟨⟨_, _, rfl, h1, h2⟩, hE⟩
end Go.Proofs.YtelbjmhhbeijkaaGreat
namespace Go.Proofs.YtelbjmhhbeijkaaGreat
open Go.Vg Go.RowKit _root_.Go.Proofs.Tryz
set_option linter.unusedVariables false
open Go.Vm
theorem tail_end {P2 P : List Nat} {t k n : Nat} (h2 : P2.length = n) (hP : P.length = n) (hk : k = n) : (P2 ++ (P ++ [t]).drop k).getD n default = t := by
  subst hk
  rw [tail_at h2, List.getD_eq_getElem?_getD, List.getElem?_append_right oM, hP, Nat.sub_self]; rfl
theorem wrap_full {a : Nat} (h : a + 1 = 4294967296) : IntKind.u32.wrap ((a : Int) + 1) = ((0 : Nat) : Int) := by
  rw [show (a : Int) + 1 = 4294967296 by omega]; decide
set_option maxHeartbeats 4000000 in
theorem n_next {w : World} {b cap : Nat} {pre post : List Value} {u y : List Nat} {Dy : Nat → TypeId → Prop} {vy : Value} (hu : Ag (gN .u32) w b 89 pre u post (y.length + 1)) (hy : Sg (gN .u32) Dy w vy y) (hDy : ∀ T, ¬ Dy b T) (lmu : Lm u) (lmy : Lm y) (hn2 : 2 ≤ y.length) (hnb : y.length ≤ 1099511627776) (htop : 2147483648 ≤ y.getD (y.length - 1) default) (hq : val u < val y * 4294967296) :
    Calls Tryz.prog 129 #[(.slice (some ⟨b, pre.length, none⟩) (y.length + 1) (cap)), vy] w fun e w' => ∃ v, e = .returned v ∧ v = .int .u32 ((val u / val y : Nat) : Int) ∧ (∃ u', Ag (gN .u32) w' b 89 pre u' post (y.length + 1) ∧ Lm u' ∧ val u' = val u % val y) ∧ Exc b w w' := by
 have hX : Exc b w w := Exc.of_ext (Ext.refl _)
 have hul := hu.2
 have hK := kd_of hul rfl hn2 lmu lmy htop hq
 obtain ⟨un, hun⟩ : ∃ z, z = u.getD y.length default := ⟨_, rfl⟩
 obtain ⟨un1, hun1⟩ : ∃ z, z = u.getD (y.length - 1) default := ⟨_, rfl⟩
 obtain ⟨u2, hu2⟩ : ∃ z, z = u.getD (y.length - 2) default := ⟨_, rfl⟩
 obtain ⟨v1, hv1⟩ : ∃ z, z = y.getD (y.length - 1) default := ⟨_, rfl⟩
 obtain ⟨v2, hv2⟩ : ∃ z, z = y.getD (y.length - 2) default := ⟨_, rfl⟩
 have bun := lmu.at (k := y.length) oM
 have bun1 := lmu.at (k := y.length - 1) oM
 have bu2 := lmu.at (k := y.length - 2) oM
 have bv1 := lmy.at (k := y.length - 1) oM
 have bv2 := lmy.at (k := y.length - 2) oM
 rw [← hun, ← hun1, ← hu2, ← hv1, ← hv2] at hK
 rw [← hun] at bun
 rw [← hun1] at bun1
 rw [← hu2] at bu2
 rw [← hv1] at bv1 htop
 rw [← hv2] at bv2
 refine calls_of (n := 170) (rs := [.tmp 4]) func129 rfl rfl rfl bL ?_
 refine wset fun F0 hF0 => ?_
 refine wsr (aS (v := (.int .u32 0)) rfl (RL.nil (wsr (mV (v := vy) (hF0 1) ?_))))
 obtain ⟨A1, c2, hv3, hc4, hc5⟩ := hy.len
 refine rV (r_len uT40 hv3) (aS (v := (iv (y.length : Nat))) rfl (RL.nil (wseq ?_)))
 refine wdraw mixed fun w6 he7 => ?_
 have he7z := he7.size
 replace hu := hu.ext he7
 replace hy := hy.tr (Sm.ext he7)
 replace hX := hX.trans (Exc.of_ext he7)
 refine aM 0 rfl (v := (.slice (some ⟨b, pre.length, none⟩) (y.length + 1) (cap))) (hF0 0) ?_
 refine aM 1 rfl (v := (iv (y.length : Nat))) rfl ?_
 refine ra 2 rfl (fun _ => r_indexAddr (i := ((y.length : Nat) : Int)) uT40 ty89 rfl rfl oM oM) ?_
 have hc8 := hu.cell (i := ((y.length : Nat) : Int)) (y.length) oM oM
 rw [show u.getD (y.length) default = un from hun.symm] at hc8
 refine aR 3 rfl (fun u hu => r_load (v := (.int .u32 (un : Int))) uT89 ag89 rfl (cell_ext hu hc8)) ?_
 refine ra 4 rfl (fun _ => r_conv (k := .u64) (a := (un : Int)) (c := (un : Int)) uT89 uT73 rfl (wu64 oM)) ?_
 refine ra 5 rfl (fun _ => r_shl (k := .u64) (a := (un : Int)) (b := 32) (c := ((un * 4294967296 : Nat) : Int)) rfl rfl dC (shl32 bun)) ?_
 refine aM 6 rfl (v := (.slice (some ⟨b, pre.length, none⟩) (y.length + 1) (cap))) (hF0 0) ?_
 refine aM 7 rfl (v := (iv (y.length : Nat))) rfl ?_
 refine ra 8 rfl (fun _ => r_sub (k := .i64) (a := ((y.length : Nat) : Int)) (b := 1) (c := ((y.length : Nat) : Int) - 1) rfl rfl (wi64 oM)) ?_
 refine ra 9 rfl (fun _ => r_indexAddr (i := ((y.length : Nat) : Int) - 1) uT40 ty89 rfl rfl oM oM) ?_
 have hc9 := hu.cell (i := ((y.length : Nat) : Int) - 1) (y.length - 1) oM oM
 rw [show u.getD (y.length - 1) default = un1 from hun1.symm] at hc9
 refine aR 10 rfl (fun u hu => r_load (v := (.int .u32 (un1 : Int))) uT89 ag89 rfl (cell_ext hu hc9)) ?_
 refine ra 11 rfl (fun _ => r_conv (k := .u64) (a := (un1 : Int)) (c := (un1 : Int)) uT89 uT73 rfl (wu64 oM)) ?_
 refine ra 12 rfl (fun _ => r_or (k := .u64) (a := ((un * 4294967296 : Nat) : Int)) (b := (un1 : Int)) (c := (((un * 4294967296 + un1) : Nat) : Int)) rfl rfl (or32 bun bun1)) ?_
 refine aA 13 rfl (v := (.int .u64 ((((un * 4294967296 + un1) : Nat) : Int)))) rfl ?_
 refine RA.done kR ?_
 refine wseq ?_
 refine wdraw mixed fun w10 he11 => ?_
 have he11z := he11.size
 replace hu := hu.ext he11
 replace hy := hy.tr (Sm.ext he11)
 replace hX := hX.trans (Exc.of_ext he11)
 refine aM 0 rfl (v := (.int .u64 ((((un * 4294967296 + un1) : Nat) : Int)))) rfl ?_
 refine aM 1 rfl (v := vy) (hF0 1) ?_
 refine aM 2 rfl (v := (iv (y.length : Nat))) rfl ?_
 refine ra 3 rfl (fun _ => r_sub (k := .i64) (a := ((y.length : Nat) : Int)) (b := 1) (c := ((y.length : Nat) : Int) - 1) rfl rfl (wi64 oM)) ?_
 obtain ⟨b12, o13, c14, hv15, hc16⟩ := hy.ix (i := ((y.length : Nat) : Int) - 1) (y.length - 1) oM oM
 rw [show y.getD (y.length - 1) default = v1 from hv1.symm] at hc16
 refine ra 4 rfl (fun _ => r_indexAddr (i := ((y.length : Nat) : Int) - 1) uT40 ty89 hv15 rfl oM oM) ?_
 refine aR 5 rfl (fun u hu => r_load (v := (.int .u32 (v1 : Int))) uT89 ag89 rfl (cell_ext hu hc16)) ?_
 refine ra 6 rfl (fun _ => r_conv (k := .u64) (a := (v1 : Int)) (c := (v1 : Int)) uT89 uT73 rfl (wu64 oM)) ?_
 refine ra 7 rfl (fun _ => r_quo (k := .u64) (a := (((un * 4294967296 + un1) : Nat) : Int)) (b := (v1 : Int)) (c := (((un * 4294967296 + un1) / v1 : Nat) : Int)) rfl rfl oM (quoN oM)) ?_
 refine aM 8 rfl (v := (.int .u64 ((((un * 4294967296 + un1) : Nat) : Int)))) rfl ?_
 refine aM 9 rfl (v := vy) (hF0 1) ?_
 refine aM 10 rfl (v := (iv (y.length : Nat))) rfl ?_
 refine ra 11 rfl (fun _ => r_sub (k := .i64) (a := ((y.length : Nat) : Int)) (b := 1) (c := ((y.length : Nat) : Int) - 1) rfl rfl (wi64 oM)) ?_
 obtain ⟨b17, o18, c19, hv20, hc21⟩ := hy.ix (i := ((y.length : Nat) : Int) - 1) (y.length - 1) oM oM
 rw [show y.getD (y.length - 1) default = v1 from hv1.symm] at hc21
 refine ra 12 rfl (fun _ => r_indexAddr (i := ((y.length : Nat) : Int) - 1) uT40 ty89 hv20 rfl oM oM) ?_
 refine aR 13 rfl (fun u hu => r_load (v := (.int .u32 (v1 : Int))) uT89 ag89 rfl (cell_ext hu hc21)) ?_
 refine ra 14 rfl (fun _ => r_conv (k := .u64) (a := (v1 : Int)) (c := (v1 : Int)) uT89 uT73 rfl (wu64 oM)) ?_
 refine ra 15 rfl (fun _ => r_rem (k := .u64) (a := (((un * 4294967296 + un1) : Nat) : Int)) (b := (v1 : Int)) (c := (((un * 4294967296 + un1) % v1 : Nat) : Int)) rfl rfl oM (remN _ _)) ?_
 refine aA 16 rfl (v := (.int .u64 ((((un * 4294967296 + un1) / v1 : Nat) : Int)))) rfl ?_
 refine aA 17 rfl (v := (.int .u64 ((((un * 4294967296 + un1) % v1 : Nat) : Int)))) rfl ?_
 refine RA.done kR ?_
 refine wset fun F22 hF23 => ?_
 refine wcut (fun fl wl => ∃ dq : Nat, Off (rg 7 2 (rg 48 36 [])) F22 fl ∧ fl 7 = (.int .u64 (dq : Int)) ∧ (val u / val y ≤ dq) ∧ (dq ≤ val u / val y + 1) ∧ (dq < 4294967296) ∧ (Ag (gN .u32) wl b 89 pre u post (y.length + 1)) ∧ (Sg (gN .u32) Dy wl vy y) ∧ (Exc b w wl)) ?_ ?_
 ·have G24 := Off.refl (rg 7 2 (rg 48 36 [])) F22
  refine wblock ?_
  refine wset fun F25 hF26 => ?_
  refine wloop (σ := Nat × Nat) (fun (s : Nat × Nat) fl wl => match s with | (dg, rs) => Off (rg 7 2 (rg 48 36 [])) F25 fl ∧ fl 7 = (.int .u64 (dg : Int)) ∧ fl 8 = (.int .u64 (rs : Int)) ∧ (Kn (val u) (val y) (un * 4294967296 + un1) v1 dg rs) ∧ (rs < 4294967296) ∧ (Ag (gN .u32) wl b 89 pre u post (y.length + 1)) ∧ (Sg (gN .u32) Dy wl vy y) ∧ (Exc b w wl)) (fun (s : Nat × Nat) => match s with | (dg, rs) => dg) ((un * 4294967296 + un1) / v1, (un * 4294967296 + un1) % v1) ?_ ?_
  ·exact ⟨Off.refl _ _, (hF26 7).trans (((hF23 7)).trans rfl), (hF26 8).trans (((hF23 8)).trans rfl), hK.start, Nat.lt_trans (Nat.mod_lt _ oM) bv1, hu, hy, hX⟩
  clear hu hy hX
  rintro ⟨dg, rs⟩ f27 w28 ⟨G29, hs30, hs31, hKn, hrs, hu, hy, hX⟩
  refine wseq (wseq ?_)
  refine wdraw mixed fun w32 he33 => ?_
  have he33z := he33.size
  replace hu := hu.ext he33
  replace hy := hy.tr (Sm.ext he33)
  replace hX := hX.trans (Exc.of_ext he33)
  refine aM 0 rfl (v := (.int .u64 (dg : Int))) hs30 ?_
  refine ra 1 rfl (fun _ => r_shr (k := .u64) (a := (dg : Int)) (b := 32) (c := ((dg / 4294967296 : Nat) : Int)) rfl rfl dC (shr32 _)) ?_
  refine ra 2 rfl (fun _ => r_neq (k := .u64) (a := ((dg / 4294967296 : Nat) : Int)) (b := 0) rfl rfl) ?_
  refine aM 3 rfl (v := (bd (((dg / 4294967296 : Nat) : Int) ≠ 0))) rfl ?_
  rcases bD (((dg / 4294967296 : Nat) : Int) ≠ 0) with ⟨hb34, hb34p⟩ | ⟨hb34, hb34p⟩
  ·have hdB : 4294967296 ≤ dg := by have := hb34p; omega
   refine aN 4 rfl rfl (.inl (bool_eq hb34)) ?_
   refine aN 5 rfl rfl (.inl (bool_eq hb34)) ?_
   refine aN 6 rfl rfl (.inl (bool_eq hb34)) ?_
   refine aN 7 rfl rfl (.inl (bool_eq hb34)) ?_
   refine aN 8 rfl rfl (.inl (bool_eq hb34)) ?_
   refine aN 9 rfl rfl (.inl (bool_eq hb34)) ?_
   refine aN 10 rfl rfl (.inl (bool_eq hb34)) ?_
   refine aN 11 rfl rfl (.inl (bool_eq hb34)) ?_
   refine aN 12 rfl rfl (.inl (bool_eq hb34)) ?_
   refine aN 13 rfl rfl (.inl (bool_eq hb34)) ?_
   refine aN 14 rfl rfl (.inl (bool_eq hb34)) ?_
   refine aN 15 rfl rfl (.inl (bool_eq hb34)) ?_
   refine aN 16 rfl rfl (.inl (bool_eq hb34)) ?_
   refine aN 17 rfl rfl (.inl (bool_eq hb34)) ?_
   refine aN 18 rfl rfl (.inl (bool_eq hb34)) ?_
   refine aN 19 rfl rfl (.inl (bool_eq hb34)) ?_
   refine aN 20 rfl rfl (.inl (bool_eq hb34)) ?_
   refine aN 21 rfl rfl (.inl (bool_eq hb34)) ?_
   refine ra 22 rfl (fun _ => r_pick_t (v := (.bool true)) (bool_eq hb34) rfl) ?_
   refine RA.done kR ?_
   refine wcond_t rfl ?_
   refine wskip ?_
   refine wblock ?_
   refine wseq ?_
   have hcond : 4294967296 ≤ dg ∨ rs * 4294967296 + u2 < dg * v2 := by first | exact .inl oM | exact .inr oM
   have hst := hK.step hKn hcond
   have hle := hKn.le
   have hge1 := hst.2
   refine wregion (mV hs30 (rV (r_sub (k := .u64) (a := (dg : Int)) (b := 1) (c := ((dg - 1 : Nat) : Int)) rfl rfl ((wu64 oM).trans oM)) (aS (v := (.int .u64 (((dg - 1 : Nat) : Int)))) rfl (RL.nil (wsr (mV hs31 (mV (v := vy) ((G29 1 rfl).trans ((hF26 1).trans ((hF23 1).trans (hF0 1)))) (mV (v := (iv (y.length : Nat))) ((G29 5 rfl).trans ((hF26 5).trans (hF23 5))) (rV (r_sub (k := .i64) (a := ((y.length : Nat) : Int)) (b := 1) (c := ((y.length : Nat) : Int) - 1) rfl rfl (wi64 oM)) ?_)))))))))
   obtain ⟨b35, o36, c37, hv38, hc39⟩ := hy.ix (i := ((y.length : Nat) : Int) - 1) (y.length - 1) oM oM
   rw [show y.getD (y.length - 1) default = v1 from hv1.symm] at hc39
   refine rV (r_indexAddr (i := ((y.length : Nat) : Int) - 1) uT40 ty89 hv38 rfl oM oM) (rV (r_load (v := (.int .u32 (v1 : Int))) uT89 ag89 rfl hc39) (rV (r_conv (k := .u64) (a := (v1 : Int)) (c := (v1 : Int)) uT89 uT73 rfl (wu64 oM)) (rV (r_add (k := .u64) (a := (rs : Int)) (b := (v1 : Int)) (c := ((rs + v1 : Nat) : Int)) rfl rfl ((wu64 oM).trans oM)) (aS (v := (.int .u64 (((rs + v1 : Nat) : Int)))) rfl (RL.nil (wsr (mV (v := (.int .u64 (((rs + v1 : Nat) : Int)))) rfl (rV (r_shr (k := .u64) (a := ((rs + v1 : Nat) : Int)) (b := 32) (c := (((rs + v1) / 4294967296 : Nat) : Int)) rfl rfl dC (shr32 _)) (rV (r_neq (k := .u64) (a := (((rs + v1) / 4294967296 : Nat) : Int)) (b := 0) rfl rfl) (RL.nil ?_))))))))))
   refine wcD (p := (((rs + v1) / 4294967296 : Nat) : Int) ≠ 0) rfl (fun hb40 hb40p => ?_) (fun hb40 hb40p => ?_)
   ·have hbr := hb40p
    refine wexit ?_
    refine ⟨dg - 1, ?_, ?_, ?_, ?_, ?_, ?_, ?_, ?_⟩
    · exact (by repeat (first | exact G24 | refine Off.st ?_ dC _ | refine Off.via G29 dC ?_ | refine Off.eq hF26 ?_))
    · rfl
    · first | exact hKn.ge | exact hst.1.ge
    · first | exact hK.exit hKn oM oM | exact Nat.le_succ_of_le (hK.brk hst.1 (by have := hKn.le; omega) oM)
    · first | omega | (have h1 := hK.brk hst.1 (by have := hKn.le; omega) oM; have h2 := hK.lt; omega)
    · exact hu
    · exact hy
    exact hX
   have hbr := hb40p
   refine wskip ?_
   refine ⟨(dg - 1, rs + v1), ⟨?_, ?_, ?_, ?_, ?_, ?_, ?_, ?_⟩, ?_⟩
   · exact (by repeat (first | exact G29 | refine Off.st ?_ dC _))
   · first | rfl | exact int_eq oM | exact bool_eq (by simp)
   · first | rfl | exact int_eq oM | exact bool_eq (by simp)
   · exact hst.1
   · omega
   · exact hu
   · exact hy
   · exact hX
   (try dsimp only)
   have := hst.2
   omega
  have hdB : dg < 4294967296 := by have := hb34p; omega
  have hmul := limb_mul hdB bv2
  obtain ⟨pm, hpm⟩ : ∃ z, z = dg * v2 := ⟨_, rfl⟩
  rw [← hpm] at hmul
  refine aG 4 rfl rfl (bool_eq hb34) (fun _ => r_move_as (v := (.int .u64 (dg : Int))) hs30) ?_
  refine aG 5 rfl rfl (bool_eq hb34) (fun _ => r_move_as (v := vy) ((G29 1 rfl).trans ((hF26 1).trans ((hF23 1).trans (hF0 1))))) ?_
  refine aG 6 rfl rfl (bool_eq hb34) (fun _ => r_move_as (v := (iv (y.length : Nat))) ((G29 5 rfl).trans ((hF26 5).trans (hF23 5)))) ?_
  refine aG 7 rfl rfl (bool_eq hb34) (fun _ => r_sub (k := .i64) (a := ((y.length : Nat) : Int)) (b := 2) (c := ((y.length : Nat) : Int) - 2) rfl rfl (wi64 oM)) ?_
  obtain ⟨b41, o42, c43, hv44, hc45⟩ := hy.ix (i := ((y.length : Nat) : Int) - 2) (y.length - 2) oM oM
  rw [show y.getD (y.length - 2) default = v2 from hv2.symm] at hc45
  refine aG 8 rfl rfl (bool_eq hb34) (fun _ => r_indexAddr (i := ((y.length : Nat) : Int) - 2) uT40 ty89 hv44 rfl oM oM) ?_
  refine RA.grd 9 rfl kR rfl rfl rfl (bool_eq hb34) rfl dC (Ext.refl _) (fun u hu => r_load (v := (.int .u32 (v2 : Int))) uT89 ag89 rfl (cell_ext hu hc45)) ?_
  refine aG 10 rfl rfl (bool_eq hb34) (fun _ => r_conv (k := .u64) (a := (v2 : Int)) (c := (v2 : Int)) uT89 uT73 rfl (wu64 oM)) ?_
  refine aG 11 rfl rfl (bool_eq hb34) (fun _ => r_mul (k := .u64) (a := (dg : Int)) (b := (v2 : Int)) (c := ((dg * v2 : Nat) : Int)) rfl rfl ((wu64 (by rw [← Int.natCast_mul, ← hpm]; omega)).trans (by rw [Int.natCast_mul]))) ?_
  refine aG 12 rfl rfl (bool_eq hb34) (fun _ => r_move_as (v := (.int .u64 (rs : Int))) hs31) ?_
  refine aG 13 rfl rfl (bool_eq hb34) (fun _ => r_shl (k := .u64) (a := (rs : Int)) (b := 32) (c := ((rs * 4294967296 : Nat) : Int)) rfl rfl dC (shl32 hrs)) ?_
  refine aG 14 rfl rfl (bool_eq hb34) (fun _ => r_move_as (v := (.slice (some ⟨b, pre.length, none⟩) (y.length + 1) (cap))) ((G29 0 rfl).trans ((hF26 0).trans ((hF23 0).trans (hF0 0))))) ?_
  refine aG 15 rfl rfl (bool_eq hb34) (fun _ => r_move_as (v := (iv (y.length : Nat))) ((G29 5 rfl).trans ((hF26 5).trans (hF23 5)))) ?_
  refine aG 16 rfl rfl (bool_eq hb34) (fun _ => r_sub (k := .i64) (a := ((y.length : Nat) : Int)) (b := 2) (c := ((y.length : Nat) : Int) - 2) rfl rfl (wi64 oM)) ?_
  refine aG 17 rfl rfl (bool_eq hb34) (fun _ => r_indexAddr (i := ((y.length : Nat) : Int) - 2) uT40 ty89 rfl rfl oM oM) ?_
  have hc46 := hu.cell (i := ((y.length : Nat) : Int) - 2) (y.length - 2) oM oM
  rw [show u.getD (y.length - 2) default = u2 from hu2.symm] at hc46
  refine RA.grd 18 rfl kR rfl rfl rfl (bool_eq hb34) rfl dC (Ext.refl _) (fun u hu => r_load (v := (.int .u32 (u2 : Int))) uT89 ag89 rfl (cell_ext hu hc46)) ?_
  refine aG 19 rfl rfl (bool_eq hb34) (fun _ => r_conv (k := .u64) (a := (u2 : Int)) (c := (u2 : Int)) uT89 uT73 rfl (wu64 oM)) ?_
  refine aG 20 rfl rfl (bool_eq hb34) (fun _ => r_or (k := .u64) (a := ((rs * 4294967296 : Nat) : Int)) (b := (u2 : Int)) (c := ((rs * 4294967296 + u2 : Nat) : Int)) rfl rfl (or32 hrs bu2)) ?_
  refine aG 21 rfl rfl (bool_eq hb34) (fun _ => r_gtr (k := .u64) (a := ((dg * v2 : Nat) : Int)) (b := ((rs * 4294967296 + u2 : Nat) : Int)) rfl rfl) ?_
  refine ra 22 rfl (fun _ => r_pick_f (v := (bd (((rs * 4294967296 + u2 : Nat) : Int) < ((dg * v2 : Nat) : Int)))) (bool_eq hb34) rfl) ?_
  refine RA.done kR ?_
  refine wcD (p := ((rs * 4294967296 + u2 : Nat) : Int) < ((dg * v2 : Nat) : Int)) rfl (fun hb47 hb47p => ?_) (fun hb47 hb47p => ?_)
  ·have hlt := hb47p
   refine wskip ?_
   refine wblock ?_
   refine wseq ?_
   have hcond : 4294967296 ≤ dg ∨ rs * 4294967296 + u2 < dg * v2 := by first | exact .inl oM | exact .inr oM
   have hst := hK.step hKn hcond
   have hle := hKn.le
   have hge1 := hst.2
   refine wregion (mV hs30 (rV (r_sub (k := .u64) (a := (dg : Int)) (b := 1) (c := ((dg - 1 : Nat) : Int)) rfl rfl ((wu64 oM).trans oM)) (aS (v := (.int .u64 (((dg - 1 : Nat) : Int)))) rfl (RL.nil (wsr (mV hs31 (mV (v := vy) ((G29 1 rfl).trans ((hF26 1).trans ((hF23 1).trans (hF0 1)))) (mV (v := (iv (y.length : Nat))) ((G29 5 rfl).trans ((hF26 5).trans (hF23 5))) (rV (r_sub (k := .i64) (a := ((y.length : Nat) : Int)) (b := 1) (c := ((y.length : Nat) : Int) - 1) rfl rfl (wi64 oM)) ?_)))))))))
   obtain ⟨b48, o49, c50, hv51, hc52⟩ := hy.ix (i := ((y.length : Nat) : Int) - 1) (y.length - 1) oM oM
   rw [show y.getD (y.length - 1) default = v1 from hv1.symm] at hc52
   refine rV (r_indexAddr (i := ((y.length : Nat) : Int) - 1) uT40 ty89 hv51 rfl oM oM) (rV (r_load (v := (.int .u32 (v1 : Int))) uT89 ag89 rfl hc52) (rV (r_conv (k := .u64) (a := (v1 : Int)) (c := (v1 : Int)) uT89 uT73 rfl (wu64 oM)) (rV (r_add (k := .u64) (a := (rs : Int)) (b := (v1 : Int)) (c := ((rs + v1 : Nat) : Int)) rfl rfl ((wu64 oM).trans oM)) (aS (v := (.int .u64 (((rs + v1 : Nat) : Int)))) rfl (RL.nil (wsr (mV (v := (.int .u64 (((rs + v1 : Nat) : Int)))) rfl (rV (r_shr (k := .u64) (a := ((rs + v1 : Nat) : Int)) (b := 32) (c := (((rs + v1) / 4294967296 : Nat) : Int)) rfl rfl dC (shr32 _)) (rV (r_neq (k := .u64) (a := (((rs + v1) / 4294967296 : Nat) : Int)) (b := 0) rfl rfl) (RL.nil ?_))))))))))
   refine wcD (p := (((rs + v1) / 4294967296 : Nat) : Int) ≠ 0) rfl (fun hb53 hb53p => ?_) (fun hb53 hb53p => ?_)
   ·have hbr := hb53p
    refine wexit ?_
    refine ⟨dg - 1, ?_, ?_, ?_, ?_, ?_, ?_, ?_, ?_⟩
    · exact (by repeat (first | exact G24 | refine Off.st ?_ dC _ | refine Off.via G29 dC ?_ | refine Off.eq hF26 ?_))
    · rfl
    · first | exact hKn.ge | exact hst.1.ge
    · first | exact hK.exit hKn oM oM | exact Nat.le_succ_of_le (hK.brk hst.1 (by have := hKn.le; omega) oM)
    · first | omega | (have h1 := hK.brk hst.1 (by have := hKn.le; omega) oM; have h2 := hK.lt; omega)
    · exact hu
    · exact hy
    exact hX
   have hbr := hb53p
   refine wskip ?_
   refine ⟨(dg - 1, rs + v1), ⟨?_, ?_, ?_, ?_, ?_, ?_, ?_, ?_⟩, ?_⟩
   · exact (by repeat (first | exact G29 | refine Off.st ?_ dC _))
   · first | rfl | exact int_eq oM | exact bool_eq (by simp)
   · first | rfl | exact int_eq oM | exact bool_eq (by simp)
   · exact hst.1
   · omega
   · exact hu
   · exact hy
   · exact hX
   (try dsimp only)
   have := hst.2
   omega
  have hlt := hb47p
  refine wexit ?_
  refine ⟨dg, ?_, ?_, ?_, ?_, ?_, ?_, ?_, ?_⟩
  · exact (by repeat (first | exact G24 | refine Off.st ?_ dC _ | refine Off.via G29 dC ?_ | refine Off.eq hF26 ?_))
  · refine (hs30).trans ?_
    rfl
  · first | exact hKn.ge | exact hst.1.ge
  · first | exact hK.exit hKn oM oM | exact Nat.le_succ_of_le (hK.brk hst.1 (by have := hKn.le; omega) oM)
  · first | omega | (have h1 := hK.brk hst.1 (by have := hKn.le; omega) oM; have h2 := hK.lt; omega)
  · exact hu
  · exact hy
  exact hX
 clear hu hy hX
 rintro f54 w55 ⟨dq, G56, hs57, hq1, hq2, hdb, hu, hy, hX⟩
 refine wsr (aS (v := (.int .u64 0)) rfl (RL.nil (wseq (wsr (mV (v := vy) ((G56 1 rfl).trans ((hF23 1).trans (hF0 1))) (rV (r_len uT40 hv3) (mV (v := (iv 0)) rfl (RL.nil ?_))))))))
 refine wblock ?_
 refine wset fun F58 hF59 => ?_
 refine wloop (σ := Nat × Nat × List Nat) (fun (s : Nat × Nat × List Nat) fl wl => match s with | (k, c, P) => Off (rg 9 5 (rg 86 31 [])) F58 fl ∧ fl 86 = (iv k) ∧ fl 9 = (.int .u64 (c : Int)) ∧ (k ≤ y.length) ∧ (P.length = k) ∧ (Lm P) ∧ (c < 4294967296) ∧ (val P + dq * val (y.take k) = val (u.take k) + 4294967296 ^ k * c) ∧ (Ag (gN .u32) wl b 89 pre (P ++ u.drop k) post (y.length + 1)) ∧ (Sg (gN .u32) Dy wl vy y) ∧ (Exc b w wl)) (fun (s : Nat × Nat × List Nat) => match s with | (k, c, P) => y.length - k) (0, 0, []) ?_ ?_
 ·exact ⟨Off.refl _ _, (hF59 86).trans (rfl), (hF59 9).trans (rfl), Nat.zero_le _, rfl, Lm.nil, by decide, (by simp [val]), hu, hy, hX⟩
 clear hu hy hX
 rintro ⟨k, c, P⟩ f60 w61 ⟨G62, hs63, hs64, hk, hP, hLm, hc, hms, hu, hy, hX⟩
 refine wsr (rV (r_lss (k := .i64) (a := (k : Int)) (b := ((y.length : Nat) : Int)) hs63 ((G62 85 rfl).trans (hF59 85))) (RL.nil (wseq ?_)))
 refine wcD (p := (k : Int) < ((y.length : Nat) : Int)) rfl (fun hb65 hb65p => ?_) (fun hb65 hb65p => ?_)
 ·refine wskip ?_
  refine wseq ?_
  refine wblock ?_
  refine wseq ?_
  have hkl : k < y.length := by omega
  have huk := lmu.at (k := k) oM
  have hvk := lmy.at hkl
  have hmc := ms_carry (u := u.getD k default) hdb hvk hc huk
  obtain ⟨pm, hpm⟩ : ∃ z, z = dq * y.getD k default := ⟨_, rfl⟩
  have hmc1 := hmc.1
  have hlm2 := limb_mul hdb hvk
  refine wregion (mV hs63 ?_)
  obtain ⟨b66, o67, c68, hv69, hc70⟩ := hy.ix (i := (k : Int)) (k) oM oM
  refine rV (r_indexAddr (i := (k : Int)) uT40 ty89 ((((G62 84 rfl).trans (hF59 84))).trans hv69) hs63 oM oM) (rV (r_load (v := (.int .u32 (((y.getD (k) default : Nat) : Int)))) uT89 ag89 rfl hc70) (aS (v := (iv k)) rfl (aS (v := (.int .u32 (((y.getD (k) default : Nat) : Int)))) rfl (RL.nil (wsr (mV (v := (.int .u64 (dq : Int))) ((G62 7 rfl).trans ((hF59 7).trans hs57)) (mV (v := (.int .u32 (((y.getD (k) default : Nat) : Int)))) rfl (rV (r_conv (k := .u64) (a := ((y.getD (k) default : Nat) : Int)) (c := ((y.getD (k) default : Nat) : Int)) uT89 uT73 rfl (wu64 oM)) (rV (r_mul (k := .u64) (a := (dq : Int)) (b := ((y.getD (k) default : Nat) : Int)) (c := ((dq * y.getD k default : Nat) : Int)) rfl rfl ((wu64 (by rw [← Int.natCast_mul]; omega)).trans (by rw [Int.natCast_mul]))) (mV hs64 (rV (r_add (k := .u64) (a := ((dq * y.getD k default : Nat) : Int)) (b := (c : Int)) (c := (((dq * y.getD k default + c) : Nat) : Int)) rfl rfl ((wu64 oM).trans oM)) (aS (v := (.int .u64 ((((dq * y.getD k default + c) : Nat) : Int)))) rfl (RL.nil (wsr (mV (v := (.slice (some ⟨b, pre.length, none⟩) (y.length + 1) (cap))) ((G62 0 rfl).trans ((hF59 0).trans ((G56 0 rfl).trans ((hF23 0).trans (hF0 0))))) (mV (v := (iv k)) rfl (rV (r_indexAddr (i := (k : Int)) uT40 ty89 rfl rfl oM oM) ?_)))))))))))))))))
  have hc71 := hu.cell (i := (k : Int)) (k) oM oM
  rw [show (P ++ u.drop k).getD (k) default = u.getD k default from (tail_at hP)] at hc71
  refine rV (r_load (v := (.int .u32 (((u.getD k default : Nat) : Int)))) uT89 ag89 rfl hc71) (rV (r_conv (k := .u64) (a := ((u.getD k default : Nat) : Int)) (c := ((u.getD k default : Nat) : Int)) uT89 uT73 rfl (wu64 oM)) (mV (v := (.int .u64 ((((dq * y.getD k default + c) : Nat) : Int)))) rfl (rV (r_conv (k := .u32) (a := (((dq * y.getD k default + c) : Nat) : Int)) (c := (((dq * y.getD k default + c) % 4294967296 : Nat) : Int)) uT73 uT89 rfl (cu32 _)) (rV (r_conv (k := .u64) (a := (((dq * y.getD k default + c) % 4294967296 : Nat) : Int)) (c := (((dq * y.getD k default + c) % 4294967296 : Nat) : Int)) uT89 uT73 rfl (wu64 oM)) (rV (r_sub (k := .u64) (a := ((u.getD k default : Nat) : Int)) (b := (((dq * y.getD k default + c) % 4294967296 : Nat) : Int)) (c := (((sb (u.getD k default) ((dq * y.getD k default + c) % 4294967296)) : Nat) : Int)) rfl rfl (wsb oM oM)) (aS (v := (.int .u64 ((((sb (u.getD k default) ((dq * y.getD k default + c) % 4294967296)) : Nat) : Int)))) rfl (RL.nil (wsr (mV (v := (.slice (some ⟨b, pre.length, none⟩) (y.length + 1) (cap))) ((G62 0 rfl).trans ((hF59 0).trans ((G56 0 rfl).trans ((hF23 0).trans (hF0 0))))) (mV (v := (iv k)) rfl (mV (v := (.int .u64 ((((sb (u.getD k default) ((dq * y.getD k default + c) % 4294967296)) : Nat) : Int)))) rfl (rV (r_conv (k := .u32) (a := (((sb (u.getD k default) ((dq * y.getD k default + c) % 4294967296)) : Nat) : Int)) (c := (((sb (u.getD k default) ((dq * y.getD k default + c) % 4294967296)) % 4294967296 : Nat) : Int)) uT73 uT89 rfl (cu32 _)) (rV (r_indexAddr (i := (k : Int)) uT40 ty89 rfl rfl oM oM) ?_)))))))))))))
  refine RL.runs rfl rfl (h_setG (g := (gN .u32)) (vv := (.int .u32 ((((sb (u.getD k default) ((dq * y.getD k default + c) % 4294967296)) % 4294967296 : Nat) : Int)))) (u := (sb (u.getD k default) ((dq * y.getD k default + c) % 4294967296)) % 4294967296) (i := (k : Int)) ty89 rfl rfl rfl rfl rfl hu (k) oM oM) ?_
  rintro w72 ⟨ha73, hx74⟩
  have hx74z := hx74.size
  replace hy := hy.tr (hu.sm hx74 (by exact hDy _))
  replace hX := hX.trans hx74
  replace hu := ha73
  refine RL.nil (wregion (mV (v := (.int .u64 ((((dq * y.getD k default + c) : Nat) : Int)))) rfl (rV (r_shr (k := .u64) (a := (((dq * y.getD k default + c) : Nat) : Int)) (b := 32) (c := (((dq * y.getD k default + c) / 4294967296 : Nat) : Int)) rfl rfl dC (shr32 _)) (mV (v := (.int .u64 ((((sb (u.getD k default) ((dq * y.getD k default + c) % 4294967296)) : Nat) : Int)))) rfl (rV (r_shr (k := .u64) (a := (((sb (u.getD k default) ((dq * y.getD k default + c) % 4294967296)) : Nat) : Int)) (b := 63) (c := (((sb (u.getD k default) ((dq * y.getD k default + c) % 4294967296)) / 9223372036854775808 : Nat) : Int)) rfl rfl dC (shr63 _)) (rV (r_add (k := .u64) (a := (((dq * y.getD k default + c) / 4294967296 : Nat) : Int)) (b := (((sb (u.getD k default) ((dq * y.getD k default + c) % 4294967296)) / 9223372036854775808 : Nat) : Int)) (c := (((dq * y.getD k default + c) / 4294967296 + (sb (u.getD k default) ((dq * y.getD k default + c) % 4294967296)) / 9223372036854775808 : Nat) : Int)) rfl rfl ((wu64 (by have := hmc.2; omega)).trans oM)) (aS (v := (.int .u64 ((((dq * y.getD k default + c) / 4294967296 + (sb (u.getD k default) ((dq * y.getD k default + c) % 4294967296)) / 9223372036854775808 : Nat) : Int)))) rfl (RL.nil (wregion (rV (r_add (k := .i64) (a := (k : Int)) (b := 1) (c := (k : Int) + 1) hs63 rfl (wi64 oM)) (mV (v := (iv ((k : Int) + 1))) rfl (RL.nil ?_))))))))))))
  refine ⟨(k + 1, (dq * y.getD k default + c) / 4294967296 + (sb (u.getD k default) ((dq * y.getD k default + c) % 4294967296)) / 9223372036854775808, P ++ [(sb (u.getD k default) ((dq * y.getD k default + c) % 4294967296)) % 4294967296]), ⟨?_, ?_, ?_, ?_, ?_, ?_, ?_, ?_, ?_, ?_, ?_⟩, ?_⟩
  · exact (by repeat (first | exact G62 | refine Off.st ?_ dC _ | refine Off.via G56 dC ?_ | refine Off.eq hF23 ?_))
  · first | rfl | exact int_eq oM | exact bool_eq (by simp)
  · first | rfl | exact int_eq oM | exact bool_eq (by simp)
  · omega
  · rw [List.length_append, hP]; rfl
  · exact hLm.snoc (Nat.mod_lt _ dC)
  · exact hmc.2
  · rw [val_take_succ (xs := y) hkl, val_take_succ (xs := u) oM]; exact ms_step hP hms huk
  · rw [tail_set hP oM] at hu; exact hu
  · exact hy
  · exact hX
  (try dsimp only)
  omega
 refine wexit ?_
 refine wseq ?_
 have hkn : k = y.length := by omega
 have hPn : P.length = y.length := by omega
 have hsl := sb_law bun hc
 have hms2 : val P + dq * val y = val (u.take y.length) + 4294967296 ^ y.length * c := by rw [hkn, List.take_of_length_le (Nat.le_refl y.length)] at hms; exact hms
 have huv : val u = val (u.take y.length) + 4294967296 ^ y.length * un := by have h9 := val_take_succ (xs := u) (k := y.length) oM; rw [List.take_of_length_le oM] at h9; rw [hun]; exact h9
 refine wregion (mV (v := (.slice (some ⟨b, pre.length, none⟩) (y.length + 1) (cap))) ((G62 0 rfl).trans ((hF59 0).trans ((G56 0 rfl).trans ((hF23 0).trans (hF0 0))))) (mV (v := (iv (y.length : Nat))) ((G62 5 rfl).trans ((hF59 5).trans ((G56 5 rfl).trans (hF23 5)))) (rV (r_indexAddr (i := ((y.length : Nat) : Int)) uT40 ty89 rfl rfl oM oM) ?_)))
 have hc75 := hu.cell (i := ((y.length : Nat) : Int)) (y.length) oM oM
 rw [show (P ++ u.drop k).getD (y.length) default = un from (by rw [hkn, tail_at hPn]; exact hun.symm)] at hc75
 refine rV (r_load (v := (.int .u32 (un : Int))) uT89 ag89 rfl hc75) (rV (r_conv (k := .u64) (a := (un : Int)) (c := (un : Int)) uT89 uT73 rfl (wu64 oM)) (mV hs64 (rV (r_sub (k := .u64) (a := (un : Int)) (b := (c : Int)) (c := (((sb un c) : Nat) : Int)) rfl rfl (wsb oM oM)) (aS (v := (.int .u64 ((((sb un c) : Nat) : Int)))) rfl (RL.nil (wsr (mV (v := (.slice (some ⟨b, pre.length, none⟩) (y.length + 1) (cap))) ((G62 0 rfl).trans ((hF59 0).trans ((G56 0 rfl).trans ((hF23 0).trans (hF0 0))))) (mV (v := (iv (y.length : Nat))) ((G62 5 rfl).trans ((hF59 5).trans ((G56 5 rfl).trans (hF23 5)))) (mV (v := (.int .u64 ((((sb un c) : Nat) : Int)))) rfl (rV (r_conv (k := .u32) (a := (((sb un c) : Nat) : Int)) (c := (((sb un c) % 4294967296 : Nat) : Int)) uT73 uT89 rfl (cu32 _)) (rV (r_indexAddr (i := ((y.length : Nat) : Int)) uT40 ty89 rfl rfl oM oM) ?_)))))))))))
 refine RL.runs rfl rfl (h_setG (g := (gN .u32)) (vv := (.int .u32 ((((sb un c) % 4294967296 : Nat) : Int)))) (u := (sb un c) % 4294967296) (i := ((y.length : Nat) : Int)) ty89 rfl rfl rfl rfl rfl hu (y.length) oM oM) ?_
 rintro w76 ⟨ha77, hx78⟩
 have hx78z := hx78.size
 replace hy := hy.tr (hu.sm hx78 (by exact hDy _))
 replace hX := hX.trans hx78
 replace hu := ha77
 refine RL.nil (wseq (wseq ?_))
 have hl1 : (P ++ u.drop k).set y.length ((sb un c) % 4294967296) = P ++ [(sb un c) % 4294967296] := by rw [hkn, tail_set hPn oM, List.drop_of_length_le oM, List.append_nil]
 refine wregion (mV (v := (.int .u64 ((((sb un c) : Nat) : Int)))) rfl (rV (r_shr (k := .u64) (a := (((sb un c) : Nat) : Int)) (b := 63) (c := (((sb un c) / 9223372036854775808 : Nat) : Int)) rfl rfl dC (shr63 _)) (rV (r_eql (k := .u64) (a := (((sb un c) / 9223372036854775808 : Nat) : Int)) (b := 0) rfl rfl) (RL.nil ?_))))
 refine wcD (p := (((sb un c) / 9223372036854775808 : Nat) : Int) = 0) rfl (fun hb79 hb79p => ?_) (fun hb79 hb79p => ?_)
 ·have hd0 : (sb un c) / 9223372036854775808 = 0 := by have := hb79p; omega
  refine wseq ?_
  have hcu : c ≤ un := hsl.2.2.1 hd0
  have hok := nd_ok hK.pos hms2 huv hcu hq1
  have hsb2 : (sb un c) % 4294967296 = un - c := by have := hsl.1; omega
  refine wregion (mV (v := (.int .u64 (dq : Int))) ((G62 7 rfl).trans ((hF59 7).trans hs57)) (rV (r_conv (k := .u32) (a := (dq : Int)) (c := (dq : Int)) uT73 uT89 rfl (wu32 oM)) (aS (v := (.int .u32 (dq : Int))) rfl (RL.nil ?_))))
  refine wret ?_
  refine ⟨[(.int .u32 (dq : Int))], ⟨rfl, trivial⟩, ?_⟩
  refine ⟨int_eq (by rw [hok.1]), ⟨_, hu, ?_, ?_⟩, hX⟩
  · rw [hl1]; exact hLm.snoc (Nat.mod_lt _ dC)
  rw [hl1, val_snoc, hPn, hsb2, ← hok.2]
 have hd0 : (sb un c) / 9223372036854775808 ≠ 0 := by have := hb79p; omega
 refine wskip ?_
 refine wseq ?_
 have hcu : ¬ c ≤ un := fun h => hd0 (hsl.2.2.2 h)
 have hPlt := val_lt hLm
 rw [hPn] at hPlt
 have hbk := nd_back hK.pos hms2 huv oM hq2 hPlt (val_lt lmy)
 have hdq1 : 0 < dq := by rw [hbk.1]; exact Nat.succ_pos _
 have hdd : (sb un c) % 4294967296 + 1 = 4294967296 := by have := hsl.1; have := hsl.2.1; have := hbk.2.1; omega
 refine wregion (aS (v := (.int .u64 0)) rfl (RL.nil (wseq (wsr (mV (v := vy) ((G62 1 rfl).trans ((hF59 1).trans ((G56 1 rfl).trans ((hF23 1).trans (hF0 1))))) (rV (r_len uT40 hv3) (mV (v := (iv 0)) rfl (RL.nil ?_))))))))
 refine wblock ?_
 refine wset fun F80 hF81 => ?_
 refine wloop (σ := Nat × Nat × List Nat) (fun (s : Nat × Nat × List Nat) fl wl => match s with | (k, c2, P2) => Off (9 :: (rg 15 2 (rg 136 23 []))) F80 fl ∧ fl 136 = (iv k) ∧ fl 9 = (.int .u64 (c2 : Int)) ∧ (k ≤ y.length) ∧ (P2.length = k) ∧ (Lm P2) ∧ (c2 ≤ 1) ∧ (val P2 + 4294967296 ^ k * c2 = val (P.take k) + val (y.take k)) ∧ (Ag (gN .u32) wl b 89 pre (P2 ++ (P ++ [(sb un c) % 4294967296]).drop k) post (y.length + 1)) ∧ (Sg (gN .u32) Dy wl vy y) ∧ (Exc b w wl)) (fun (s : Nat × Nat × List Nat) => match s with | (k, c2, P2) => y.length - k) (0, 0, []) ?_ ?_
 ·exact ⟨Off.refl _ _, (hF81 136).trans (rfl), (hF81 9).trans (rfl), Nat.zero_le _, rfl, Lm.nil, Nat.zero_le _, (by simp [val]), (by rw [hl1] at hu; exact hu), hy, hX⟩
 clear hu hy hX
 rintro ⟨k, c2, P2⟩ f82 w83 ⟨G84, hs85, hs86, hk, hP2, hP2m, hc2, hbs, hu, hy, hX⟩
 refine wsr (rV (r_lss (k := .i64) (a := (k : Int)) (b := ((y.length : Nat) : Int)) hs85 ((G84 135 rfl).trans (hF81 135))) (RL.nil (wseq ?_)))
 refine wcD (p := (k : Int) < ((y.length : Nat) : Int)) rfl (fun hb87 hb87p => ?_) (fun hb87 hb87p => ?_)
 ·refine wskip ?_
  refine wseq ?_
  refine wblock ?_
  refine wseq ?_
  have hkl : k < y.length := by omega
  have hvk := lmy.at hkl
  have hpk := hLm.at (k := k) oM
  have hgk : (P2 ++ (P ++ [(sb un c) % 4294967296]).drop k).getD k default = P.getD k default := by rw [tail_at hP2, List.getD_eq_getElem?_getD, List.getElem?_append_left oM, ← List.getD_eq_getElem?_getD]
  refine wregion (mV hs85 ?_)
  obtain ⟨b88, o89, c90, hv91, hc92⟩ := hy.ix (i := (k : Int)) (k) oM oM
  refine rV (r_indexAddr (i := (k : Int)) uT40 ty89 ((((G84 134 rfl).trans (hF81 134))).trans hv91) hs85 oM oM) (rV (r_load (v := (.int .u32 (((y.getD (k) default : Nat) : Int)))) uT89 ag89 rfl hc92) (aS (v := (iv k)) rfl (aS (v := (.int .u32 (((y.getD (k) default : Nat) : Int)))) rfl (RL.nil (wsr (mV hs86 (mV (v := (.slice (some ⟨b, pre.length, none⟩) (y.length + 1) (cap))) ((G84 0 rfl).trans ((hF81 0).trans ((G62 0 rfl).trans ((hF59 0).trans ((G56 0 rfl).trans ((hF23 0).trans (hF0 0))))))) (mV (v := (iv k)) rfl (rV (r_indexAddr (i := (k : Int)) uT40 ty89 rfl rfl oM oM) ?_)))))))))
  have hc93 := hu.cell (i := (k : Int)) (k) oM oM
  rw [show (P2 ++ (P ++ [(sb un c) % 4294967296]).drop k).getD (k) default = P.getD k default from hgk] at hc93
  refine rV (r_load (v := (.int .u32 (((P.getD k default : Nat) : Int)))) uT89 ag89 rfl hc93) (rV (r_conv (k := .u64) (a := ((P.getD k default : Nat) : Int)) (c := ((P.getD k default : Nat) : Int)) uT89 uT73 rfl (wu64 oM)) (mV (v := (.int .u32 (((y.getD (k) default : Nat) : Int)))) rfl (rV (r_conv (k := .u64) (a := ((y.getD (k) default : Nat) : Int)) (c := ((y.getD (k) default : Nat) : Int)) uT89 uT73 rfl (wu64 oM)) (rV (r_add (k := .u64) (a := ((P.getD k default : Nat) : Int)) (b := ((y.getD (k) default : Nat) : Int)) (c := ((P.getD k default + y.getD k default : Nat) : Int)) rfl rfl ((wu64 oM).trans oM)) (rV (r_add (k := .u64) (a := (c2 : Int)) (b := ((P.getD k default + y.getD k default : Nat) : Int)) (c := ((c2 + (P.getD k default + y.getD k default) : Nat) : Int)) rfl rfl ((wu64 oM).trans oM)) (aS (v := (.int .u64 (((c2 + (P.getD k default + y.getD k default) : Nat) : Int)))) rfl (RL.nil (wsr (mV (v := (.slice (some ⟨b, pre.length, none⟩) (y.length + 1) (cap))) ((G84 0 rfl).trans ((hF81 0).trans ((G62 0 rfl).trans ((hF59 0).trans ((G56 0 rfl).trans ((hF23 0).trans (hF0 0))))))) (mV (v := (iv k)) rfl (mV (v := (.int .u64 (((c2 + (P.getD k default + y.getD k default) : Nat) : Int)))) rfl (rV (r_conv (k := .u32) (a := ((c2 + (P.getD k default + y.getD k default) : Nat) : Int)) (c := (((c2 + (P.getD k default + y.getD k default)) % 4294967296 : Nat) : Int)) uT73 uT89 rfl (cu32 _)) (rV (r_indexAddr (i := (k : Int)) uT40 ty89 rfl rfl oM oM) ?_)))))))))))))
  refine RL.runs rfl rfl (h_setG (g := (gN .u32)) (vv := (.int .u32 ((((c2 + (P.getD k default + y.getD k default)) % 4294967296 : Nat) : Int)))) (u := (c2 + (P.getD k default + y.getD k default)) % 4294967296) (i := (k : Int)) ty89 rfl rfl rfl rfl rfl hu (k) oM oM) ?_
  rintro w94 ⟨ha95, hx96⟩
  have hx96z := hx96.size
  replace hy := hy.tr (hu.sm hx96 (by exact hDy _))
  replace hX := hX.trans hx96
  replace hu := ha95
  refine RL.nil (wregion (mV (v := (.int .u64 (((c2 + (P.getD k default + y.getD k default) : Nat) : Int)))) rfl (rV (r_shr (k := .u64) (a := ((c2 + (P.getD k default + y.getD k default) : Nat) : Int)) (b := 32) (c := (((c2 + (P.getD k default + y.getD k default)) / 4294967296 : Nat) : Int)) rfl rfl dC (shr32 _)) (aS (v := (.int .u64 ((((c2 + (P.getD k default + y.getD k default)) / 4294967296 : Nat) : Int)))) rfl (RL.nil (wregion (rV (r_add (k := .i64) (a := (k : Int)) (b := 1) (c := (k : Int) + 1) hs85 rfl (wi64 oM)) (mV (v := (iv ((k : Int) + 1))) rfl (RL.nil ?_)))))))))
  refine ⟨(k + 1, (c2 + (P.getD k default + y.getD k default)) / 4294967296, P2 ++ [(c2 + (P.getD k default + y.getD k default)) % 4294967296]), ⟨?_, ?_, ?_, ?_, ?_, ?_, ?_, ?_, ?_, ?_, ?_⟩, ?_⟩
  · exact (by repeat (first | exact G84 | refine Off.st ?_ dC _ | refine Off.via G62 dC ?_ | refine Off.eq hF59 ?_ | refine Off.via G56 dC ?_ | refine Off.eq hF23 ?_))
  · first | rfl | exact int_eq oM | exact bool_eq (by simp)
  · first | rfl | exact int_eq oM | exact bool_eq (by simp)
  · omega
  · rw [List.length_append, hP2]; rfl
  · exact hP2m.snoc (Nat.mod_lt _ dC)
  · omega
  · rw [val_take_succ (xs := y) hkl, val_take_succ (xs := P) oM]; exact back_step hP2 hbs
  · rw [tail_set hP2 (by rw [List.length_append, hPn]; simp; omega)] at hu; exact hu
  · exact hy
  · exact hX
  (try dsimp only)
  omega
 refine wexit ?_
 refine wseq ?_
 have hkn2 : k = y.length := by omega
 have hbf := back_fin oM hP2m (by rw [hkn2, List.take_of_length_le oM, List.take_of_length_le (Nat.le_refl _)] at hbs; exact hbs) hbk.2.2 (Nat.lt_trans (Nat.mod_lt _ hK.pos) (val_lt lmy))
 have hgn : (P2 ++ (P ++ [(sb un c) % 4294967296]).drop k).getD y.length default = (sb un c) % 4294967296 := tail_end oM hPn hkn2
 refine wregion (mV (v := (.slice (some ⟨b, pre.length, none⟩) (y.length + 1) (cap))) ((G84 0 rfl).trans ((hF81 0).trans ((G62 0 rfl).trans ((hF59 0).trans ((G56 0 rfl).trans ((hF23 0).trans (hF0 0))))))) (mV (v := (iv (y.length : Nat))) ((G84 5 rfl).trans ((hF81 5).trans ((G62 5 rfl).trans ((hF59 5).trans ((G56 5 rfl).trans (hF23 5)))))) (rV (r_indexAddr (i := ((y.length : Nat) : Int)) uT40 ty89 rfl rfl oM oM) ?_)))
 have hc97 := hu.cell (i := ((y.length : Nat) : Int)) (y.length) oM oM
 rw [show (P2 ++ (P ++ [(sb un c) % 4294967296]).drop k).getD (y.length) default = (sb un c) % 4294967296 from hgn] at hc97
 refine rV (r_load (v := (.int .u32 ((((sb un c) % 4294967296 : Nat) : Int)))) uT89 ag89 rfl hc97) (mV hs86 (rV (r_conv (k := .u32) (a := (c2 : Int)) (c := 1) uT73 uT89 rfl ((wu32 (by have := hbf.1; omega)).trans (by have := hbf.1; omega))) (rV (r_add (k := .u32) (a := (((sb un c) % 4294967296 : Nat) : Int)) (b := 1) (c := ((0 : Nat) : Int)) rfl rfl (wrap_full hdd)) (rV (r_indexAddr (i := ((y.length : Nat) : Int)) uT40 ty89 rfl rfl oM oM) ?_))))
 refine RL.runs rfl rfl (h_setG (g := (gN .u32)) (vv := (.int .u32 (((0 : Nat) : Int)))) (u := 0) (i := ((y.length : Nat) : Int)) ty89 rfl rfl rfl rfl rfl hu (y.length) oM oM) ?_
 rintro w98 ⟨ha99, hx100⟩
 have hx100z := hx100.size
 replace hX := hX.trans hx100
 replace hu := ha99
 refine RL.nil (wseq ?_)
 have hl0 : (P2 ++ (P ++ [(sb un c) % 4294967296]).drop k).set y.length 0 = P2 ++ [0] := by rw [hkn2, tail_set oM (by rw [List.length_append, hPn]; simp), List.drop_of_length_le (by rw [List.length_append, hPn]; simp), List.append_nil]
 refine wregion (mV (v := (.int .u64 (dq : Int))) ((G84 7 rfl).trans ((hF81 7).trans ((G62 7 rfl).trans ((hF59 7).trans hs57)))) (rV (r_sub (k := .u64) (a := (dq : Int)) (b := 1) (c := ((dq - 1 : Nat) : Int)) rfl rfl ((wu64 oM).trans oM)) (rV (r_conv (k := .u32) (a := ((dq - 1 : Nat) : Int)) (c := ((dq - 1 : Nat) : Int)) uT73 uT89 rfl (wu32 oM)) (aS (v := (.int .u32 (((dq - 1 : Nat) : Int)))) rfl (RL.nil ?_)))))
 refine wret ?_
 refine ⟨[(.int .u32 (((dq - 1 : Nat) : Int)))], ⟨rfl, trivial⟩, ?_⟩
 refine ⟨int_eq (by rw [hbk.1, Nat.add_sub_cancel]), ⟨_, hu, ?_, ?_⟩, hX⟩
 · rw [hl0]; exact hP2m.snoc dC
 rw [hl0, val_snoc, hbf.2]; simp
end Go.Proofs.YtelbjmhhbeijkaaGreat
namespace Go.Proofs.YtelbjmhhbeijkaaGreat
open Go.Vg Go.RowKit Go.Shelf _root_.Go.Proofs.Tryz
def rho : Ren := ⟨fun n => if n = 128 then 79 else if n = 133 then 126 else 0, fun n => if n = 3 then 3 else if n = 4 then 4 else if n = 5 then 5 else if n = 9 then 9 else if n = 46 then 77 else if n = 51 then 89 else 0, fun x => x⟩
theorem lays133 : Lays.n133 Tryz.prog rho := by
  constructor <;> first | kernel_rfl | (intro w; kernel_rfl)
theorem bl_spec : ∀ (f x : Nat), x < 2 ^ f → f ≤ 64 → x ≠ 0 → 1 ≤ Lib.bitLen x ∧ 2 ^ (Lib.bitLen x - 1) ≤ x ∧ x < 2 ^ Lib.bitLen x
  | 0, x, h, _, h0 => by simp at h; exact absurd h h0
  | f + 1, x, h, hf, h0 => by
    have h64 : x < 2 ^ 64 := Nat.lt_of_lt_of_le h (Nat.pow_le_pow_right dC hf)
    rw [Lib.bitLen_half x h0 h64]
    by_cases h1 : x / 2 = 0
    · have hx1 : x = 1 := by omega
      subst hx1
      decide
    have h2 : x / 2 < 2 ^ f := by rw [Nat.pow_succ] at h; omega
    obtain ⟨g1, g2, g3⟩ := bl_spec f (x / 2) h2 oM h1
    refine ⟨by omega, ?_, ?_⟩
    · have e : 2 ^ (1 + Lib.bitLen (x / 2) - 1) = 2 ^ (Lib.bitLen (x / 2) - 1) * 2 := by rw [← Nat.pow_succ]; congr 1; omega
      rw [e]; omega
    rw [Nat.add_comm, Nat.pow_succ]; omega
theorem lead_spec {x : Nat} (w : World) (h0 : x ≠ 0) (hx : x < 4294967296) : Calls Tryz.prog 126 #[.int .u32 (x : Int)] w fun e w' => ∃ v, e = .returned v ∧ (∃ s : Nat, v = .int .i64 (s : Int) ∧ s ≤ 31 ∧ 2147483648 ≤ x * 2 ^ s ∧ x * 2 ^ s < 4294967296) ∧ w = w' := by
  refine (Any.bits_LeadingZeros32 lays133 (x : Int) w oM oM).mono ?_
  rintro e w' ⟨rfl, rfl⟩
  obtain ⟨g1, g2, g3⟩ := bl_spec 32 x hx dC h0
  rw [Int.toNat_natCast]
  have hb : Lib.bitLen x ≤ 32 := by
    have h : 2 ^ (Lib.bitLen x - 1) < 2 ^ 32 := Nat.lt_of_le_of_lt g2 hx
    have := (Nat.pow_lt_pow_iff_right dC).1 h
    omega
  refine ⟨_, rfl, ⟨32 - Lib.bitLen x, by congr 1; omega, by omega, ?_, ?_⟩, rfl⟩
  · have e : (2147483648 : Nat) = 2 ^ (Lib.bitLen x - 1) * 2 ^ (32 - Lib.bitLen x) := by rw [← Nat.pow_add, show Lib.bitLen x - 1 + (32 - Lib.bitLen x) = 31 by omega]
    rw [e]; exact Nat.mul_le_mul_right _ g2
  have e : (4294967296 : Nat) = 2 ^ Lib.bitLen x * 2 ^ (32 - Lib.bitLen x) := by rw [← Nat.pow_add, show Lib.bitLen x + (32 - Lib.bitLen x) = 32 by omega]
  rw [e]; exact Nat.mul_lt_mul_of_pos_right g3 (Nat.pow_pos dC)
end Go.Proofs.YtelbjmhhbeijkaaGreat
namespace Go.Vm
theorem long_start {a m n s V : Nat} {U : List Nat} (hl : U.length = m + 1) (hU : Lm U) (hv : val U = a * 2 ^ s) (ha : a < 4294967296 ^ m) (hs : s ≤ 31) (hn : n ≤ m) (h1 : 1 ≤ n) (hV : 2147483648 * 4294967296 ^ (n - 1) ≤ V) : val (U.drop (m + 1 - n)) < V := by
  have hd := div_pow_drop hU (m + 1 - n)
  rw [← hd, hv]
  refine Nat.lt_of_lt_of_le ?_ hV
  refine (Nat.div_lt_iff_lt_mul (Nat.pow_pos dC)).2 ?_
  have e : 4294967296 ^ (n - 1) * 4294967296 ^ (m + 1 - n) = 4294967296 ^ m := by rw [← Nat.pow_add]; congr 1; omega
  rw [Nat.mul_assoc, e, Nat.mul_comm a]
  have h31 : 2 ^ s ≤ 2147483648 := Nat.le_trans (Nat.pow_le_pow_right dC hs) dC
  exact Nat.lt_of_lt_of_le (Nat.mul_lt_mul_of_pos_left ha (Nat.pow_pos dC)) (Nat.mul_le_mul_right _ h31)
theorem long_win {u : List Nat} {j n V : Nat} (lu : Lm u) (hl : j + n + 1 ≤ u.length) (hV : V < 4294967296 ^ n) (h : val (u.drop (j + 1)) < V) : val ((u.drop j).take (n + 1)) < V * 4294967296 ∧ val (u.drop (j + (n + 1))) = 0 := by
  have h1 := val_drop_cons (a := u) (n := j + 1) (Nat.succ_pos _) oM
  rw [Nat.add_sub_cancel] at h1
  have hj := lu.at (k := j) oM
  have h2 := val_split (u.drop j) (m := n + 1) (by rw [List.length_drop]; omega)
  rw [List.drop_drop] at h2
  have hlt : val (u.drop j) < V * 4294967296 := by rw [h1]; omega
  have hz : val (u.drop (j + (n + 1))) = 0 := by
    rcases Nat.eq_zero_or_pos (val (u.drop (j + (n + 1)))) with h | h
    · exact h
    have h3 : 4294967296 ^ (n + 1) ≤ 4294967296 ^ (n + 1) * val (u.drop (j + (n + 1))) := Nat.le_mul_of_pos_right _ h
    have h4 : V * 4294967296 < 4294967296 ^ (n + 1) := by rw [Nat.pow_succ]; exact Nat.mul_lt_mul_of_pos_right hV dC
    omega
  exact ⟨by rw [hz, Nat.mul_zero, Nat.add_zero] at h2; omega, hz⟩
theorem long_next {u mid Q : List Nat} {j n V A q : Nat} (hl : j + n + 1 ≤ u.length) (hm : mid.length = n + 1) (hz : val (u.drop (j + (n + 1))) = 0) (hq : q = val ((u.drop j).take (n + 1)) / V) (hr : val mid = val ((u.drop j).take (n + 1)) % V) (hV : 0 < V)
    (h : A = val u + V * (4294967296 ^ (j + 1) * val Q)) : A = val (u.take j ++ mid ++ u.drop (j + (n + 1))) + V * (4294967296 ^ j * val (q :: Q)) ∧ val ((u.take j ++ mid ++ u.drop (j + (n + 1))).drop j) < V ∧ (u.take j ++ mid ++ u.drop (j + (n + 1))).length = u.length := by
  have htl : (u.take j).length = j := by rw [List.length_take]; omega
  have e1 : val (u.take j ++ mid ++ u.drop (j + (n + 1))) = val (u.take j) + 4294967296 ^ j * val mid := by
    rw [List.append_assoc, val_append, val_append, hz, htl]; simp
  have e2 : val u = val (u.take j) + 4294967296 ^ j * val ((u.drop j).take (n + 1)) := by
    have h2 := val_split u (m := j) oM
    have h3 := val_split (u.drop j) (m := n + 1) (by rw [List.length_drop]; omega)
    rw [List.drop_drop, hz, Nat.mul_zero, Nat.add_zero] at h3
    rw [h2, h3]
  have e3 : val ((u.take j ++ mid ++ u.drop (j + (n + 1))).drop j) = val mid := by
    have h5 : ((u.take j ++ mid ++ u.drop (j + (n + 1))).drop j) = mid ++ u.drop (j + (n + 1)) := by
      rw [List.append_assoc, List.drop_append_of_le_length oM, List.drop_of_length_le oM, List.nil_append]
    rw [h5, val_append, hz]; simp
  refine ⟨?_, ?_, ?_⟩
  · refine (long_step (A := val u) (Q := val Q) (low := val (u.take j)) (W := val ((u.drop j).take (n + 1))) (W' := val mid) (V := V) (j := j) (q := q) (B' := 4294967296 ^ j) ?_ rfl e2 e1 ?_).trans ?_
    · rw [h, Nat.pow_succ, Nat.mul_assoc (4294967296 ^ j)]
    · rw [hq, hr, Nat.mul_comm]; exact (Nat.div_add_mod _ _).symm
    rfl
  · rw [e3, hr]; exact Nat.mod_lt _ hV
  simp only [List.length_append, List.length_drop, htl, hm]; omega
theorem long_fin {a b s A V R Q : Nat} (hA : A = a * 2 ^ s) (hV : V = b * 2 ^ s) (h : A = R + V * Q) (hR : R < V) : Q = a / b ∧ R / 2 ^ s = a % b := by
  have hp : 0 < 2 ^ s := Nat.pow_pos dC
  have h1 := div_fin (n := A) (b := V) (Qn := Q) (r := R) (by rw [h, Nat.mul_comm]; omega) hR
  refine ⟨?_, ?_⟩
  · rw [h1.1, hA, hV, Nat.mul_div_mul_right _ _ hp]
  rw [h1.2, hA, hV, Nat.mul_mod_mul_right, Nat.mul_div_cancel _ hp]
theorem norm_val {Y : List Nat} {V n s : Nat} (lY : Lm Y) (hs : s ≤ 31) (hn : 2 ≤ n) (hl : Y.length = n) (hV : V = val Y * 2 ^ s) (h1 : 2147483648 ≤ Y.getD (n - 1) default * 2 ^ s) (h2 : Y.getD (n - 1) default * 2 ^ s < 4294967296) : 2147483648 * 4294967296 ^ (n - 1) ≤ V ∧ V < 4294967296 ^ n := by
  have e := val_take_succ (xs := Y) (k := n - 1) oM
  rw [show n - 1 + 1 = n by omega, List.take_of_length_le oM] at e
  have hlt := val_lt (lY.take (n - 1))
  rw [List.length_take, show min (n - 1) Y.length = n - 1 by omega] at hlt
  have ep : 4294967296 ^ n = 4294967296 ^ (n - 1) * 4294967296 := by rw [← Nat.pow_succ]; congr 1; omega
  have ek : 4294967296 = 2 ^ (32 - s) * 2 ^ s := by rw [← Nat.pow_add, show 32 - s + s = 32 by omega]
  have hk : 0 < 2 ^ s := Nat.pow_pos dC
  generalize Y.getD (n - 1) default = t at *
  generalize val (Y.take (n - 1)) = lo at *
  have h3 : (t + 1) * 2 ^ s ≤ 4294967296 := by
    rw [ek] at h2 ⊢
    exact Nat.mul_le_mul_right _ (Nat.lt_of_mul_lt_mul_right h2)
  clear ek
  generalize 4294967296 ^ (n - 1) = p at *
  generalize 2 ^ s = k at *
  subst hV
  rw [e, ep]
  refine ⟨?_, ?_⟩
  · have h4 := Nat.mul_le_mul_left p h1
    have h5 : p * (t * k) ≤ (lo + p * t) * k := by rw [Nat.add_mul, Nat.mul_assoc]; exact Nat.le_add_left _ _
    rw [Nat.mul_comm p] at h4
    exact Nat.le_trans h4 h5
  have h4 := Nat.mul_le_mul_left p h3
  refine Nat.lt_of_lt_of_le ?_ h4
  rw [← Nat.mul_assoc, Nat.mul_add, Nat.mul_one]
  exact Nat.mul_lt_mul_of_pos_right oM hk
theorem top_val {L : List Nat} {n : Nat} (hn : 1 ≤ n) (hl : L.length = n) (hL : Lm L) (h : 2147483648 * 4294967296 ^ (n - 1) ≤ val L) : 2147483648 ≤ L.getD (n - 1) default := by
  have e := val_take_succ (xs := L) (k := n - 1) oM
  rw [show n - 1 + 1 = n by omega, List.take_of_length_le oM] at e
  have hlt := val_lt (hL.take (n - 1))
  rw [List.length_take, show min (n - 1) L.length = n - 1 by omega] at hlt
  rw [e] at h
  generalize 4294967296 ^ (n - 1) = p at *
  generalize L.getD (n - 1) default = t at *
  rcases Nat.lt_or_ge t 2147483648 with h6 | h6
  · have h7 : p * (t + 1) ≤ p * 2147483648 := Nat.mul_le_mul_left p h6
    rw [Nat.mul_add, Nat.mul_one] at h7
    omega
  exact h6
theorem take_val {L : List Nat} {n : Nat} (hl : n ≤ L.length) (h : val L < 4294967296 ^ n) : val (L.take n) = val L := by
  have e := val_split L hl
  rcases Nat.eq_zero_or_pos (val (L.drop n)) with h0 | h0
  · rw [h0] at e; omega
  have := Nat.le_mul_of_pos_right (4294967296 ^ n) h0; omega
end Go.Vm
namespace Go.Vg
open Go Go.RowKit Go.Vm
def Osl {α : Type} (c : α → List Value) (size : Nat) (w : World) (lo : Nat) (T : TypeId) (v : Value) (xs : List α) : Prop :=
  ((∀ x, (c x).length = size) ∧ 0 < size) ∧ Ow w lo T size v xs.length (xs.map c).flatten
section
variable {α : Type} {c : α → List Value} {size : Nat} {D : Nat → TypeId → Prop} {w w' : World} {lo b cap : Nat} {T : TypeId} {v : Value} {xs : List α}
theorem Osl.ext (h : Osl c size w lo T v xs) (e : Ext w w') : Osl c size w' lo T v xs := ⟨h.1, h.2.ext e⟩
theorem Osl.exo (h : Osl c size w lo T v xs) (e : Exc b w w') (hne : v.ownBlock ≠ some b) : Osl c size w' lo T v xs := ⟨h.1, h.2.exo e hne⟩
theorem Osl.one (h : Osl c size w lo T v xs) : v.oneCell' = true := h.2.one
theorem Osl.len (h : Osl c size w lo T v xs) : ∃ A cap, v = .slice A xs.length cap ∧ xs.length ≤ cap ∧ cap ≤ 9223372036854775807 := h.2.len
theorem Osl.lt (h : Osl c size w lo T v xs) (b : Nat) (hb : v.ownBlock = some b) : b < w.heap.size := (World.ownsRow.lt h.2 b hb).2
theorem Osl.ss (h : Osl c size w lo T v xs) (hD : ∀ b, lo ≤ b → D b T) : Ss c size D w v xs := h.2.ss rfl rfl h.1.2 (fun x _ => h.1.1 x) hD
theorem Osl.at (h : Osl c size w lo T v xs) (k : Nat) (hk : k < xs.length) : ∃ b cap, v = .slice (some ⟨b, 0, none⟩) xs.length cap ∧ lo ≤ b := by
  rcases h.2.2 with ⟨_, h0⟩ | ⟨b, cap, cur, rfl, hb, _⟩
  · omega
  exact ⟨b, cap, rfl, hb⟩
theorem Osl.cell [Inhabited α] (h : Osl c size w lo T v xs) (hv : v = .slice (some ⟨b, 0, none⟩) xs.length cap) {i : Int} (k : Nat) (hi : i = (k : Int)) (hk : k < xs.length) : ∀ j u, (c (xs.getD k default))[j]? = some u → w.cell? ⟨b, 0 + i.toNat * size + j, none⟩ = some u := by
  obtain ⟨bb, o, cap', hv', hc⟩ := (h.ss (D := fun _ _ => True) (fun _ _ => trivial)).ix k hi hk
  rw [hv] at hv'
  injection hv' with e1 e2 e3
  injection e1 with e1
  injection e1 with e4 e5
  subst e4 e5
  exact hc
end
section
variable {P : Program} {f : Nat → Value} {w : World} {dst : Option Tmp} {ty : TypeId} {pos : String} {aft : Array Edge} {gd : Option (Nat × Bool)} {x y z : Operand} {t e : TypeId}
end
section
variable {α : Type} [Inhabited α] {f : Nat → α} {l : List α} {k : Nat}
end
end Go.Vg
namespace Go.Vg
open Go Go.RowKit Go.Vm
theorem flat_inv {α : Type} [Inhabited α] {c : α → List Value} {size : Nat} (hs : 0 < size) (hc : ∀ x, (c x).length = size) {xs : List α} {m : Nat} {u : Value} (h : (xs.map c).flatten[m]? = some u) : m / size < xs.length ∧ (c (xs.getD (m / size) default))[m % size]? = some u := by
  have hm : m < xs.length * size := by
    rw [← flat_len hc]
    exact (List.getElem?_eq_some_iff.1 h).1
  have h1 : m / size < xs.length := (Nat.div_lt_iff_lt_mul hs).2 hm
  refine ⟨h1, ?_⟩
  have h2 : m % size < (c (xs.getD (m / size) default)).length := by rw [hc]; exact Nat.mod_lt _ hs
  have h3 : xs[m / size]? = some (xs.getD (m / size) default) := by simp [h1]
  have h4 := flat_at (fun x _ => hc x) h3 (List.getElem?_eq_getElem h2)
  rw [Nat.div_add_mod' m size, h] at h4
  injection h4 with h4
  rw [List.getElem?_eq_getElem h2, h4]
theorem Ss.of_cells {α : Type} [Inhabited α] {c : α → List Value} {size : Nat} (hs : 0 < size) (hc : ∀ x, (c x).length = size) {w : World} {x : Addr} {len cap : Nat} {xs : List α} (hl : xs.length = len) (hlc : len ≤ cap) (hm : cap ≤ maxLen)
    (hcell : ∀ i, i < len → ∀ j u, (c (xs.getD i default))[j]? = some u → w.cell? (x.add (i * size + j)) = some u) : Ss c size (fun _ _ => True) w (.slice (some x) len cap) xs := by
  subst hl
  refine ⟨⟨hs, fun x _ => hc x⟩, some x, cap, rfl, hlc, hm, flat_len hc xs, ?_⟩
  by_cases h0 : xs.length = 0
  · left
    rw [List.eq_nil_of_length_eq_zero h0]
    rfl
  right
  obtain ⟨b, o, spot⟩ := x
  have hlen : 0 < (c (xs.getD 0 default)).length := by rw [hc]; exact hs
  have h1 := hcell 0 oM 0 _ (List.getElem?_eq_getElem hlen)
  have hspot : spot = none := by simpa [Addr.add] using World.cell?_spot h1
  subst hspot
  refine ⟨b, o, rfl, .inr ?_⟩
  have h2 := h1
  unfold World.cell? at h2
  rw [add_spotless] at h2
  cases hb : w.heap[b]? with
  | none => rw [show ((⟨b, o + (0 * size + 0), none⟩ : Addr).block) = b from rfl, hb] at h2; cases h2
  | some ob =>
    cases ob with
    | cells cs T fz =>
      refine ⟨cs, T, fz, rfl, trivial, fun m u hu => ?_⟩
      obtain ⟨h3, h4⟩ := flat_inv hs hc hu
      have h5 := hcell (m / size) h3 (m % size) u h4
      rw [Nat.div_add_mod' m size, add_spotless] at h5
      unfold World.cell? at h5
      simp only [hb] at h5
      simpa using h5
    | _ => rw [show ((⟨b, o + (0 * size + 0), none⟩ : Addr).block) = b from rfl, hb] at h2; cases h2
end Go.Vg
namespace Go.Vg
open Go Go.RowKit Go.Vm
section
variable {α : Type} {g : α → Value} {w : World} {b m : Nat} {T : TypeId} {u : List α}
theorem Ar.win (h : Ar g w b T 0 u m) (j k : Nat) (hjk : j + k ≤ m) : ∃ pre post, pre.length = j ∧ Ag g w b T pre ((u.drop j).take k) post k ∧ ∀ w' mid, Ag g w' b T pre mid post k → Ar g w' b T 0 (u.take j ++ mid ++ u.drop (j + k)) m := by
  obtain ⟨⟨pre, post, h1, h2⟩, h3⟩ := h
  have hp0 : pre = [] := List.eq_nil_of_length_eq_zero h1
  subst hp0
  refine ⟨(u.take j).map g, (u.drop (j + k)).map g ++ post, by simp; omega, ⟨?_, by simp; omega⟩, ?_⟩
  · have e : u.map g = (u.take j).map g ++ (((u.drop j).take k).map g ++ (u.drop (j + k)).map g) := by
      rw [← List.map_append, ← List.map_append, ← List.drop_drop, List.take_append_drop, List.take_append_drop]
    rw [e] at h2
    simpa [List.append_assoc] using h2
  rintro w' mid ⟨h4, h5⟩
  refine ⟨⟨[], post, rfl, ?_⟩, by simp; omega⟩
  simpa [List.append_assoc] using h4
end
section
variable {P : Program} {f : Nat → Value} {w : World} {dst : Option Tmp} {ty : TypeId} {pos : String} {aft : Array Edge} {gd : Option (Nat × Bool)} {x y z : Operand} {t e : TypeId}
theorem r_swin {k k' : IntKind} {b n c j m bytes : Nat} {l h : Int} {zz : Value} (hu : P.underlying t = some (.slice e)) (ht : TyI P e 1 bytes zz) (hx : ev f x = .slice (some ⟨b, 0, none⟩) n c) (hy : ev f y = .int k l) (hz : ev f z = .int k' h) (hl : l = (j : Int)) (hh : h = ((j + m : Nat) : Int)) (hm : 0 < m) (hc : j + m ≤ c) :
    (execOp (ev f) ⟨dst, .slice t x (some y) (some z) none, ty, pos, aft, gd⟩).run P w = .ok (.value (.slice (some ⟨b, j, none⟩) m (c - j))) w := by
  have h2 := r_slice_lh (P := P) (f := f) (w := w) (dst := dst) (ty := ty) (pos := pos) (aft := aft) (g := gd) hu ht hx hy hz oM oM oM
  rw [hl, hh, Int.toNat_natCast, Int.toNat_natCast, if_neg oM, Nat.add_sub_cancel_left] at h2
  simpa [add_spotless] using h2
end
end Go.Vg
namespace Go.Proofs.YtelbjmhhbeijkaaGreat
open Go.Vg Go.RowKit _root_.Go.Proofs.Tryz
set_option linter.unusedVariables false
open Go.Vm
set_option maxHeartbeats 4000000 in
theorem n_long {w : World} {Dx : Nat → TypeId → Prop} {vx : Value} {x : List Nat} (hx0 : Sg (gN .u32) Dx w vx x) (lmx : Lm x) (lnx : x.length ≤ 1099511627776) {Dy : Nat → TypeId → Prop} {vy : Value} {y : List Nat} (hy0 : Sg (gN .u32) Dy w vy y) (lmy : Lm y) (lny : y.length ≤ 1099511627776) (hn2 : 2 ≤ y.length) (htz : y.getD (y.length - 1) default ≠ 0) (hyx : y.length ≤ x.length) :
    Calls Tryz.prog 117 #[vx, vy] w fun e w' => ∃ v, e = .returned v ∧ (∃ vq vr, v = .tuple #[vq, vr] ∧ Sg (gN .u32) (fun b T => w.heap.size ≤ b ∧ T = 89) w' vq (digs (val x / val y)) ∧ Sg (gN .u32) (fun b T => w.heap.size ≤ b ∧ T = 89) w' vr (digs (val x % val y))) ∧ Ext w w' := by
 have hE : Below w.heap.size w w := Below.refl _ _
 have hx := hx0.old
 clear hx0
 have hy := hy0.old
 clear hy0
 have hlvx := dl_val lmx
 have hlvy := dl_val lmy
 refine calls_of (n := 67) (rs := [.tmp 4, .tmp 5]) func117 rfl rfl rfl bL ?_
 refine wset fun F0 hF0 => ?_
 refine wsr (aS (v := (.slice none (0) (0))) rfl (aS (v := (.slice none (0) (0))) rfl (RL.nil (wsr (mV (v := vy) (hF0 1) ?_)))))
 obtain ⟨A1, c2, hv3, hc4, hc5⟩ := hy.len
 refine rV (r_len uT40 hv3) (aS (v := (iv (y.length : Nat))) rfl (RL.nil (wseq ?_)))
 have htl := lmy.at (k := y.length - 1) oM
 refine wregion (mV (v := vy) (hF0 1) (mV (v := (iv (y.length : Nat))) rfl (rV (r_sub (k := .i64) (a := ((y.length : Nat) : Int)) (b := 1) (c := ((y.length : Nat) : Int) - 1) rfl rfl (wi64 oM)) ?_)))
 obtain ⟨b6, o7, c8, hv9, hc10⟩ := hy.ix (i := ((y.length : Nat) : Int) - 1) (y.length - 1) oM oM
 refine rV (r_indexAddr (i := ((y.length : Nat) : Int) - 1) uT40 ty89 hv9 rfl oM oM) (rV (r_load (v := (.int .u32 (((y.getD (y.length - 1) default : Nat) : Int)))) uT89 ag89 rfl hc10) ?_)
 refine cL ent126 (lead_spec (x := y.getD (y.length - 1) default) _ htz htl) rfl ?_
 rintro _ _ ⟨⟨sh, rfl, hs, hz1, hz2⟩, rfl⟩
 refine aS (v := (iv sh)) rfl (RL.nil (wsr (mV (v := vy) (hF0 1) (mV (v := (iv sh)) rfl ?_))))
 refine cL ent128 (n_shifted hy (by assumption) oS hs) rfl ?_
 rintro vv21 w12 ⟨⟨b14, L15, hvv20, gr19, hb16, lm17, hvl18⟩, he13⟩
 have ge_b14 := Nat.le_trans hE.size gr19
 subst hvv20
 replace hE := hE.nx he13
 refine mV (v := (iv (y.length : Nat))) rfl ?_
 have hLl : L15.length = y.length + 1 := hb16.2
 have hV := (hb16.sc (D := (fun b _ => b = b14)) (Nat.le_refl _) oM rfl).take (y.length) oM rfl
 have hVb := norm_val lmy hs hn2 rfl rfl hz1 hz2
 have hLvv : val (L15.take y.length) = val y * 2 ^ sh := by rw [take_val oM (by rw [hvl18]; exact hVb.2)]; exact hvl18
 have lmv := lm17.take y.length
 obtain ⟨Lv, hLv⟩ : ∃ l, l = L15.take y.length := ⟨_, rfl⟩
 rw [← hLv] at hV hLvv lmv
 have hLvl : Lv.length = y.length := by rw [hLv, List.length_take]; omega
 rw [← hLvv, ← hLvl] at hVb
 have htopv := top_val oM rfl lmv hVb.1
 refine rV (r_sh (h := ((y.length : Nat) : Int)) (kk := y.length) uT40 ty89 rfl rfl rfl oM) (aS (v := (.slice (some ⟨b14, 0, none⟩) (y.length) (y.length + 1))) rfl (RL.nil (wsr (mV (v := vx) (hF0 0) (mV (v := (iv sh)) rfl ?_)))))
 replace hx := hx.tr (Sm.ext he13)
 refine cL ent128 (n_shifted hx (by assumption) oS hs) rfl ?_
 rintro vv31 w22 ⟨⟨b24, L25, hvv30, gr29, hb26, lm27, hvl28⟩, he23⟩
 have lt_b14_b24 := Nat.lt_of_lt_of_le hb16.lt gr29
 have ge_b24 := Nat.le_trans hE.size gr29
 subst hvv30
 replace hE := hE.nx he23
 refine aS (v := (.slice (some ⟨b24, 0, none⟩) (x.length + 1) (x.length + 1))) rfl (RL.nil (wseq ?_))
 obtain ⟨dg, hdg⟩ : ∃ d, d + y.length = x.length + 1 := ⟨x.length + 1 - y.length, by omega⟩
 have hVp : 0 < val Lv := Nat.lt_of_lt_of_le (Nat.mul_pos dC (Nat.pow_pos dC)) hVb.1
 refine wregion (mV (v := (.slice (some ⟨b24, 0, none⟩) (x.length + 1) (x.length + 1))) rfl (rV (r_len uT40 rfl) (mV (v := (iv (y.length : Nat))) rfl (rV (r_sub (k := .i64) (a := ((x.length + 1 : Nat) : Int)) (b := ((y.length : Nat) : Int)) (c := (dg : Int)) rfl rfl ((wi64 oM).trans oM)) (aS (v := (iv dg)) rfl (RL.nil (wsr (mV (v := (iv dg)) rfl ?_))))))))
 have hn37 : ((dg : Int) : Int) = (dg : Int) := by omega
 refine rU (h_make1 (n := dg) uT40 ty89 rfl (int_eq hn37) (int_eq hn37) oM oM) ?_
 rintro _ w32 ⟨b33, rfl, hs36, hb35, he34⟩
 have lt_b24_b33 := Nat.lt_of_lt_of_eq hb26.lt hs36.symm
 have ge_b33 := hE.ge hs36
 replace hE := hE.nx he34
 replace hb35 := Ar.made (g := (gN .u32)) (z := (0 : Nat)) hb35 rfl
 have hb35l := hb35.lt
 refine aS (v := (.slice (some ⟨b33, 0, none⟩) (dg) (dg))) rfl (RL.nil (wseq (wsr (mV (v := (iv dg)) rfl (mV (v := (iv 0)) rfl (RL.nil ?_))))))
 refine wblock ?_
 refine wset fun F38 hF39 => ?_
 refine wloop (σ := Nat × List Nat × List Nat) (fun (s : Nat × List Nat × List Nat) fl wl => match s with | (k, u, Q) => Off (rg 11 2 (rg 36 20 [])) F38 fl ∧ fl 36 = (iv k) ∧ (k ≤ dg) ∧ (u.length = x.length + 1) ∧ (Lm u) ∧ (Q.length = k) ∧ (Lm Q) ∧ (val x * 2 ^ sh = val u + val Lv * (4294967296 ^ (dg - k) * val Q)) ∧ (val (u.drop (dg - k)) < val Lv) ∧ (Ar (gN .u32) wl b24 89 0 u (x.length + 1)) ∧ (Ar (gN .u32) wl b33 89 0 (List.replicate (dg - k) 0 ++ Q) dg) ∧ (Sg (gN .u32) (fun b T => Dx b T ∧ b < w.heap.size) wl vx x) ∧ (Sg (gN .u32) (fun b T => Dy b T ∧ b < w.heap.size) wl vy y) ∧ (Below w.heap.size w wl) ∧ (Ar (gN .u32) wl b14 89 0 L15 (y.length + 1)) ∧ (Sg (gN .u32) (fun b _ => b = b14) wl (.slice (some ⟨b14, 0, none⟩) (y.length) (y.length + 1)) Lv)) (fun (s : Nat × List Nat × List Nat) => match s with | (k, u, Q) => dg - k) (0, L25, []) ?_ ?_
 ·replace hb26 := hb26.ext he34
  replace hx := hx.tr (Sm.ext (Ext.trans he23 he34))
  have hm40 := Ext.trans he13 (Ext.trans he23 he34)
  replace hy := hy.tr (Sm.ext hm40)
  replace hb16 := hb16.ext (Ext.trans he23 he34)
  replace hV := hV.tr (Sm.ext (Ext.trans he23 he34))
  exact ⟨Off.refl _ _, (hF39 36).trans (rfl), Nat.zero_le _, hb26.2, lm27, rfl, Lm.nil, (by rw [hvl28]; simp [val]), (by rw [Nat.sub_zero, show dg = x.length + 1 - Lv.length by omega]; exact long_start hb26.2 lm27 hvl28 (val_lt lmx) hs oM oM hVb.1), hb26, (by simpa using hb35), hx, hy, hE, hb16, hV⟩
 clear hx hy hE hb16 hV hb26 hb35
 rintro ⟨k, u, Q⟩ f41 w42 ⟨G43, hs44, hk, hul, lmu, hQl, hQm, hinv, hrem, hb26, hb35, hx, hy, hE, hb16, hV⟩
 refine wsr (rV (r_lss (k := .i64) (a := (k : Int)) (b := (dg : Int)) hs44 ((G43 35 rfl).trans (hF39 35))) (RL.nil (wseq ?_)))
 refine wcD (p := (k : Int) < (dg : Int)) rfl (fun hb45 hb45p => ?_) (fun hb45 hb45p => ?_)
 ·refine wskip ?_
  refine wseq ?_
  refine wblock ?_
  refine wseq ?_
  obtain ⟨j, hj⟩ : ∃ j, dg - k = j + 1 := ⟨dg - k - 1, by omega⟩
  have hj1 : dg - (k + 1) = j := by omega
  rw [hj] at hinv hrem hb35
  refine wregion (mV hs44 (aS (v := (iv k)) rfl (RL.nil (wsr (mV (v := (iv dg)) ((G43 10 rfl).trans (hF39 10)) (rV (r_sub (k := .i64) (a := (dg : Int)) (b := 1) (c := (dg : Int) - 1) rfl rfl (wi64 oM)) (mV (v := (iv k)) rfl (rV (r_sub (k := .i64) (a := (dg : Int) - 1) (b := (k : Int)) (c := (j : Int)) rfl rfl ((wi64 oM).trans oM)) (aS (v := (iv j)) rfl (RL.nil (wregion (mV (v := (.slice (some ⟨b33, 0, none⟩) (dg) (dg))) ((G43 4 rfl).trans (hF39 4)) (mV (v := (iv j)) rfl (mV (v := (.slice (some ⟨b24, 0, none⟩) (x.length + 1) (x.length + 1))) ((G43 9 rfl).trans (hF39 9)) (mV (v := (iv j)) rfl (mV (v := (iv j)) rfl (mV (v := (iv (y.length : Nat))) ((G43 6 rfl).trans (hF39 6)) (rV (r_add (k := .i64) (a := (j : Int)) (b := ((y.length : Nat) : Int)) (c := (j : Int) + ((y.length : Nat) : Int)) rfl rfl (wi64 oM)) (rV (r_add (k := .i64) (a := (j : Int) + ((y.length : Nat) : Int)) (b := 1) (c := ((j : Int) + ((y.length : Nat) : Int)) + 1) rfl rfl (wi64 oM)) ?_)))))))))))))))))))
  obtain ⟨pre, post, hpl, hAg, hback⟩ := hb26.win j (Lv.length + 1) oM
  have hwin := long_win lmu oM hVb.2 hrem
  refine rV (r_swin (l := (j : Int)) (h := ((j : Int) + ((y.length : Nat) : Int)) + 1) (j := pre.length) (m := Lv.length + 1) uT40 ty89 rfl rfl rfl oM oM oM oM) (mV (v := (.slice (some ⟨b14, 0, none⟩) (y.length) (y.length + 1))) ((G43 8 rfl).trans (hF39 8)) ?_)
  refine cL ent129 (n_next (cap := (x.length + 1) - pre.length) hAg hV (fun T h => by have h : _ = _ := h; omega) ((lmu.drop j).take _) lmv oM oM htopv hwin.1) rfl ?_
  rintro _ w46 ⟨rfl, ⟨mid, hAgm, lmm, hmv⟩, hx47⟩
  replace hb26 := hback _ _ hAgm
  refine rV (r_indexAddr (i := (j : Int)) uT40 ty89 rfl rfl oM oM) ?_
  replace hb35 := hb35.exc hx47 (Nat.ne_of_gt lt_b24_b33)
  refine RL.runs rfl rfl (h_set (g := (gN .u32)) (vv := (.int .u32 (((val ((u.drop j).take (Lv.length + 1)) / val Lv : Nat) : Int)))) (u := val ((u.drop j).take (Lv.length + 1)) / val Lv) (i := (j : Int)) ty89 rfl rfl rfl rfl rfl hb35 (j) oM oM) ?_
  rintro w48 ⟨ha49, hx50⟩
  replace hE := (hE.nb hx47 ge_b24).nb hx50 ge_b33
  replace hb35 := ha49
  refine RL.nil ?_
  have hml : mid.length = Lv.length + 1 := hAgm.2
  have hnx := long_next (n := Lv.length) (q := val ((u.drop j).take (Lv.length + 1)) / val Lv) oM hml hwin.2 rfl hmv hVp hinv
  refine wregion (rV (r_add (k := .i64) (a := (k : Int)) (b := 1) (c := (k : Int) + 1) hs44 rfl (wi64 oM)) (mV (v := (iv ((k : Int) + 1))) rfl (RL.nil ?_)))
  replace hb26 := hb26.exc hx50 (Nat.ne_of_lt lt_b24_b33)
  replace hx := (hx.tr (Sm.exc hx47 (fun _ _ _ _ hd => absurd hd.2 (Nat.not_lt_of_le ge_b24)))).tr (Sm.exc hx50 (fun _ _ _ _ hd => absurd hd.2 (Nat.not_lt_of_le ge_b33)))
  replace hy := (hy.tr (Sm.exc hx47 (fun _ _ _ _ hd => absurd hd.2 (Nat.not_lt_of_le ge_b24)))).tr (Sm.exc hx50 (fun _ _ _ _ hd => absurd hd.2 (Nat.not_lt_of_le ge_b33)))
  replace hb16 := (hb16.exc hx47 (Nat.ne_of_lt lt_b14_b24)).exc hx50 (Nat.ne_of_lt (Nat.lt_trans lt_b14_b24 lt_b24_b33))
  replace hV := (hV.tr (Sm.exc hx47 (fun _ _ _ _ => by exact fun hd => by have hd : _ = _ := hd; omega))).tr (Sm.exc hx50 (fun _ _ _ _ => by exact fun hd => by have hd : _ = _ := hd; omega))
  refine ⟨(k + 1, (u.take j ++ mid ++ u.drop (j + (Lv.length + 1))), val ((u.drop j).take (Lv.length + 1)) / val Lv :: Q), ⟨?_, ?_, ?_, ?_, ?_, ?_, ?_, ?_, ?_, ?_, ?_, ?_, ?_, ?_, ?_, ?_⟩, ?_⟩
  · exact (by repeat (first | exact G43 | refine Off.st ?_ dC _))
  · first | rfl | exact int_eq oM | exact bool_eq (by simp)
  · omega
  · rw [hnx.2.2]; exact hul
  · exact ((lmu.take _).append lmm).append (lmu.drop _)
  · rw [List.length_cons, hQl]
  · exact fun z hz => by rcases List.mem_cons.1 hz with rfl | hz; exact (Nat.div_lt_iff_lt_mul hVp).2 (by rw [Nat.mul_comm]; exact hwin.1); exact hQm z hz
  · rw [hj1]; exact hnx.1
  · rw [hj1]; exact hnx.2.1
  · exact hb26
  · rw [hj1]; rw [zset] at hb35; exact hb35
  · exact hx
  · exact hy
  · exact hE
  · exact hb16
  · exact hV
  (try dsimp only)
  omega
 refine wexit ?_
 refine wseq ?_
 have hk0 : dg - k = 0 := by omega
 rw [hk0, List.replicate_zero, List.nil_append] at hb35
 rw [hk0, Nat.pow_zero, Nat.one_mul] at hinv
 rw [hk0, List.drop_zero] at hrem
 have hfin := long_fin rfl hLvv hinv hrem
 have hut : val (u.take y.length) = val u := take_val oM (by rw [← hLvl]; exact Nat.lt_trans hrem hVb.2)
 refine wregion (mV (v := (.slice (some ⟨b24, 0, none⟩) (x.length + 1) (x.length + 1))) ((G43 9 rfl).trans (hF39 9)) (mV (v := (iv (y.length : Nat))) ((G43 6 rfl).trans (hF39 6)) ?_))
 have hU := (hb26.sc (D := (fun b T => w.heap.size ≤ b ∧ T = 89)) (Nat.le_refl _) oM ⟨ge_b24, rfl⟩).take (y.length) oM rfl
 refine rV (r_sh (h := ((y.length : Nat) : Int)) (kk := y.length) uT40 ty89 rfl rfl rfl oM) (mV (v := (iv sh)) ((G43 7 rfl).trans (hF39 7)) ?_)
 refine cL ent130 (n_shr hU (lmu.take _) (by first | omega | (rw [List.length_take]; omega)) hs) rfl ?_
 rintro _ w51 ⟨⟨vr53, rfl, hr54⟩, he52⟩
 replace hr54 := hr54.fr hE
 replace hE := hE.nx he52
 refine mV (v := (.tuple #[vr53, (.bool true)])) rfl (rV (r_extract (v := vr53) rfl rfl) (rV (r_extract (v := (.bool true)) rfl rfl) (aS (v := vr53) rfl (RL.nil (wsr (mV (v := (.slice (some ⟨b33, 0, none⟩) (dg) (dg))) ((G43 4 rfl).trans (hF39 4)) ?_))))))
 replace hb35 := hb35.ext he52
 refine cL ent100 (n_cut (hb35.sc (D := (fun b T => w.heap.size ≤ b ∧ T = 89)) (Nat.le_refl _) oM ⟨ge_b33, rfl⟩) hQm (by first | omega | (simp; done) | (simp; omega))) rfl ?_
 rintro vr56 _ ⟨hr57, rfl⟩
 have hlv58 := dl_val (x := Q) hQm
 refine mV (v := vr53) rfl (aS (v := vr56) rfl (aS (v := vr53) rfl (RL.nil ?_)))
 refine wret ?_
 refine ⟨[vr56, vr53], ⟨rfl, ⟨rfl, trivial⟩⟩, ?_⟩
 have h1 := hr57
 have h2 := hr54
 rw [hfin.1] at h1
 rw [hut, hfin.2] at h2
 exact ⟨⟨_, _, rfl, h1, h2⟩, hE⟩
end Go.Proofs.YtelbjmhhbeijkaaGreat
namespace Go.Proofs.YtelbjmhhbeijkaaGreat
open Go.Vg Go.RowKit _root_.Go.Proofs.Tryz
set_option linter.unusedVariables false
open Go.Vm
theorem one_dig {n : Nat} (h : (digs n).length = 1) : (digs n).getD 0 default = n ∧ n < 4294967296 := by
  have e := val_digs n
  have hl := digs_lm n
  generalize digs n = l at *
  match l, h with
  | [d], _ =>
    have := hl d (by simp)
    simp [val] at e
    exact ⟨by simp [e], by omega⟩
theorem top_nz {n : Nat} (h : 0 < (digs n).length) : (digs n).getD ((digs n).length - 1) default ≠ 0 := (digs_cn n).resolve_left oM
set_option maxHeartbeats 1000000 in
theorem n_divmod {w : World} {Dx : Nat → TypeId → Prop} {vx : Value} {x : List Nat} (hx0 : Sg (gN .u32) Dx w vx x) (lmx : Lm x) (lnx : x.length ≤ 1099511627776) {Dy : Nat → TypeId → Prop} {vy : Value} {y : List Nat} (hy0 : Sg (gN .u32) Dy w vy y) (lmy : Lm y) (lny : y.length ≤ 1099511627776) :
    Calls Tryz.prog 94 #[vx, vy] w fun e w' => ∃ v, e = .returned v ∧ (∃ vq vr, v = .tuple #[vq, vr, .bool (decide (val y ≠ 0))] ∧ Sg (gN .u32) (fun b T => w.heap.size ≤ b ∧ T = 89) w' vq (digs (val x / val y)) ∧ Sg (gN .u32) (fun b T => w.heap.size ≤ b ∧ T = 89) w' vr (digs (modZ (val x) (val y)))) ∧ Ext w w' := by
 have hE : Below w.heap.size w w := Below.refl _ _
 have hx := hx0.old
 clear hx0
 have hy := hy0.old
 clear hy0
 have hlvx := dl_val lmx
 have hlvy := dl_val lmy
 refine calls_of (n := 62) (rs := [.tmp 4, .tmp 5, .tmp 6]) func94 rfl rfl rfl bL ?_
 refine wset fun F0 hF0 => ?_
 refine wsr (aS (v := (.slice none (0) (0))) rfl (aS (v := (.slice none (0) (0))) rfl (aS (v := (.bool false)) rfl (RL.nil (wsr (mV (v := vx) (hF0 0) ?_))))))
 refine cL ent100 (n_cut hx (by assumption) (by first | omega | (simp; done) | (simp; omega))) rfl ?_
 rintro vr2 _ ⟨hr3, rfl⟩
 have hlv4 := dl_val (x := x) (by assumption)
 refine mV (v := vy) (hF0 1) ?_
 refine cL ent100 (n_cut hy (by assumption) (by first | omega | (simp; done) | (simp; omega))) rfl ?_
 rintro vr6 _ ⟨hr7, rfl⟩
 have hlv8 := dl_val (x := y) (by assumption)
 refine aS (v := vr2) rfl (aS (v := vr6) rfl (RL.nil (wseq ?_)))
 refine wblock ?_
 refine wsr (mV (v := vr6) rfl ?_)
 obtain ⟨A9, c10, hv11, hc12, hc13⟩ := hr7.len
 refine rV (r_len uT40 hv11) (rV (r_eql (k := .i64) (a := (((digs (val y)).length : Nat) : Int)) (b := 0) rfl rfl) (aS (v := (bd ((((digs (val y)).length : Nat) : Int) = 0))) rfl (RL.nil ?_)))
 refine wcD (p := (((digs (val y)).length : Nat) : Int) = 0) rfl (fun hb14 hb14p => ?_) (fun hb14 hb14p => ?_)
 ·refine wsr ?_
  refine aS (v := (.slice none (0) (0))) rfl (aS (v := (.slice none (0) (0))) rfl (aS (v := (.bool false)) rfl (RL.nil ?_)))
  refine wret ?_
  refine ⟨[(.slice none (0) (0)), (.slice none (0) (0)), (.bool false)], ⟨rfl, ⟨rfl, ⟨rfl, trivial⟩⟩⟩, ?_⟩
  have hy0 : val y = 0 := len_zero.1 (by unfold len; omega)
  rw [hy0]
  exact ⟨⟨_, _, rfl, by rw [Nat.div_zero]; exact Sg.nil, Sg.nil⟩, hE⟩
 have hy0 : val y ≠ 0 := fun h => by rw [h, digs_zero] at hb14p; exact hb14p rfl
 refine wsr (mV (v := vr2) rfl (mV (v := vr6) rfl ?_))
 refine cL ent67 (n_compare hr3 (digs_lm _) oS hr7 (digs_lm _) oS) rfl ?_
 rintro vq18 w15 ⟨hq17, he16⟩
 simp only [val_digs] at hq17
 subst hq17
 replace hE := hE.nx he16
 refine rV (r_lss (k := .i64) (a := cmpI (((val x) : Nat) : Int) (((val y) : Nat) : Int)) (b := 0) rfl rfl) (aS (v := (bd ((cmpI (((val x) : Nat) : Int) (((val y) : Nat) : Int)) < 0))) rfl (RL.nil ?_))
 refine wcD (p := (cmpI (((val x) : Nat) : Int) (((val y) : Nat) : Int)) < 0) rfl (fun hb19 hb19p => ?_) (fun hb19 hb19p => ?_)
 ·have hlt : val x < val y := by have := cmpI_neg.1 hb19p; omega
  refine wsr (mV (v := vr2) rfl ?_)
  replace hr3 := hr3.tr (Sm.ext he16)
  refine cL ent92 (n_trim hr3 (digs_lm _) oS) rfl ?_
  rintro vr22 w20 ⟨hr23, he21⟩
  try rw [val_digs] at hr23
  replace hr23 := hr23.fr hE
  replace hE := hE.nx he21
  refine aS (v := (.slice none (0) (0))) rfl (aS (v := vr22) rfl (aS (v := (.bool true)) rfl (RL.nil ?_)))
  refine wret ?_
  refine ⟨[(.slice none (0) (0)), vr22, (.bool true)], ⟨rfl, ⟨rfl, ⟨rfl, trivial⟩⟩⟩, ?_⟩
  exact ⟨⟨_, _, by rw [decide_eq_true (show val y ≠ 0 by omega)]; rfl, by rw [Nat.div_eq_of_lt hlt]; exact Sg.nil, by rw [modZ, if_neg oM, Nat.mod_eq_of_lt hlt]; exact hr23⟩, hE⟩
 have hge : val y ≤ val x := by rcases Nat.lt_or_ge (val x) (val y) with h | h; exact absurd (cmpI_neg.2 oM) hb19p; exact h
 have hlen : (digs (val y)).length ≤ (digs (val x)).length := len_mono hge
 refine wsr (mV (v := vr2) rfl ?_)
 obtain ⟨A24, c25, hv26, hc27, hc28⟩ := hr3.len
 refine rV (r_len uT40 hv26) (rV (r_leq (k := .i64) (a := (((digs (val x)).length : Nat) : Int)) (b := 2) rfl rfl) (aS (v := (bd ((((digs (val x)).length : Nat) : Int) ≤ 2))) rfl (RL.nil ?_)))
 refine wcD (p := (((digs (val x)).length : Nat) : Int) ≤ 2) rfl (fun hb29 hb29p => ?_) (fun hb29 hb29p => ?_)
 ·have hx64 := len_u64.2 (show len (val x) ≤ 2 by unfold len; omega)
  have hq64 : val x / val y < 18446744073709551616 := Nat.lt_of_le_of_lt (Nat.div_le_self _ _) hx64
  have hr64 : val x % val y < 18446744073709551616 := Nat.lt_of_le_of_lt (Nat.mod_le _ _) hx64
  refine wsr (mV (v := vr2) rfl ?_)
  replace hr3 := hr3.tr (Sm.ext he16)
  refine cL ent113 (n_word hr3 (digs_lm _) oM) rfl ?_
  rintro vq32 _ ⟨hq31, rfl⟩
  rw [val_digs] at hq31
  subst hq31
  refine mV (v := vr6) rfl ?_
  replace hr7 := hr7.tr (Sm.ext he16)
  refine cL ent113 (n_word hr7 (digs_lm _) oM) rfl ?_
  rintro vq35 _ ⟨hq34, rfl⟩
  rw [val_digs] at hq34
  subst hq34
  refine aS (v := (.int .u64 ((((val x) : Nat) : Int)))) rfl (aS (v := (.int .u64 ((((val y) : Nat) : Int)))) rfl (RL.nil (wseq ?_)))
  refine wdraw mixed fun w36 he37 => ?_
  replace hE := hE.nx he37
  refine aM 0 rfl (v := (.int .u64 ((((val x) : Nat) : Int)))) rfl ?_
  refine aM 1 rfl (v := (.int .u64 ((((val y) : Nat) : Int)))) rfl ?_
  refine ra 2 rfl (fun _ => r_quo (k := .u64) (a := (((val x) : Nat) : Int)) (b := (((val y) : Nat) : Int)) (c := ((val x / val y : Nat) : Int)) rfl rfl oM (quoN oM)) ?_
  refine aM 4 rfl (v := (.int .u64 ((((val x) : Nat) : Int)))) rfl ?_
  refine aM 5 rfl (v := (.int .u64 ((((val y) : Nat) : Int)))) rfl ?_
  refine ra 6 rfl (fun _ => r_rem (k := .u64) (a := (((val x) : Nat) : Int)) (b := (((val y) : Nat) : Int)) (c := ((val x % val y : Nat) : Int)) rfl rfl oM (remN _ _)) ?_
  refine RA.all [3] kR rfl ?_
  refine cS ent90 (n_from oM) rfl rfl ?_ RS.nil
  rintro vr40 w38 ⟨hr41, he39⟩
  refine rm he39 ?_
  replace hr41 := hr41.fr hE
  replace hE := hE.nx he39
  have hlv42 := dl_u64 (n := val x / val y) oM
  refine RA.all [7] kR rfl ?_
  refine cS ent90 (n_from oM) rfl rfl ?_ RS.nil
  rintro vr45 w43 ⟨hr46, he44⟩
  refine rm he44 ?_
  replace hr46 := hr46.fr hE
  replace hE := hE.nx he44
  have hlv47 := dl_u64 (n := val x % val y) oM
  refine aA 8 rfl (v := vr40) rfl ?_
  refine aA 9 rfl (v := vr45) rfl ?_
  refine aA 10 rfl (v := (.bool true)) rfl ?_
  refine RA.done kR ?_
  refine wret ?_
  refine ⟨[vr40, vr45, (.bool true)], ⟨rfl, ⟨rfl, ⟨rfl, trivial⟩⟩⟩, ?_⟩
  replace hr41 := hr41.tr (Sm.ext he44)
  exact ⟨⟨_, _, by rw [decide_eq_true hy0]; rfl, hr41, by rw [modZ, if_neg hy0]; exact hr46⟩, hE⟩
 refine wsr (mV (v := vr6) rfl (rV (r_len uT40 hv11) (rV (r_eql (k := .i64) (a := (((digs (val y)).length : Nat) : Int)) (b := 1) rfl rfl) (aS (v := (bd ((((digs (val y)).length : Nat) : Int) = 1))) rfl (RL.nil ?_)))))
 refine wcD (p := (((digs (val y)).length : Nat) : Int) = 1) rfl (fun hb48 hb48p => ?_) (fun hb48 hb48p => ?_)
 ·have hone := one_dig (n := val y) oM
  have hone2 := hone.2
  refine wsr (mV (v := vr2) rfl (mV (v := vr6) rfl ?_))
  replace hr7 := hr7.tr (Sm.ext he16)
  obtain ⟨b49, o50, c51, hv52, hc53⟩ := hr7.ix (i := 0) (0) oM oM
  rw [show (digs (val y)).getD (0) default = val y from hone.1] at hc53
  refine rV (r_indexAddr (i := 0) uT40 ty89 hv52 rfl oM oM) (rV (r_load (v := (.int .u32 (((val y : Nat) : Int)))) uT89 ag89 rfl hc53) ?_)
  replace hr3 := hr3.tr (Sm.ext he16)
  refine cL ent116 (n_dbl hr3 (digs_lm _) oM (d := val y) oM oM) rfl ?_
  rintro _ w54 ⟨⟨vq56, vr58, rfl, hq57, hr59⟩, he55⟩
  simp only [val_digs] at hq57 hr59
  replace hq57 := hq57.fr hE
  replace hr59 := hr59.fr hE
  replace hE := hE.nx he55
  refine mV (v := (.tuple #[vq56, vr58])) rfl (rV (r_extract (v := vq56) rfl rfl) (rV (r_extract (v := vr58) rfl rfl) (aS (v := vq56) rfl (aS (v := vr58) rfl (RL.nil (wsr (mV (v := vq56) rfl (mV (v := vr58) rfl (aS (v := vq56) rfl (aS (v := vr58) rfl (aS (v := (.bool true)) rfl (RL.nil ?_))))))))))))
  refine wret ?_
  refine ⟨[vq56, vr58, (.bool true)], ⟨rfl, ⟨rfl, ⟨rfl, trivial⟩⟩⟩, ?_⟩
  exact ⟨⟨_, _, by rw [decide_eq_true hy0]; rfl, hq57, by rw [modZ, if_neg hy0]; exact hr59⟩, hE⟩
 have hy1 : 0 < (digs (val y)).length := by rcases Nat.eq_zero_or_pos (digs (val y)).length with h | h; exact absurd (len_zero.1 h) hy0; exact h
 have htz := top_nz hy1
 refine wskip ?_
 refine wsr (mV (v := vr2) rfl (mV (v := vr6) rfl ?_))
 replace hr3 := hr3.tr (Sm.ext he16)
 replace hr7 := hr7.tr (Sm.ext he16)
 refine cL ent117 (n_long hr3 (digs_lm _) oM hr7 (digs_lm _) oM oM htz hlen) rfl ?_
 rintro _ w62 ⟨⟨vq64, vr66, rfl, hq65, hr67⟩, he63⟩
 simp only [val_digs] at hq65 hr67
 replace hq65 := hq65.fr hE
 replace hr67 := hr67.fr hE
 replace hE := hE.nx he63
 refine mV (v := (.tuple #[vq64, vr66])) rfl (rV (r_extract (v := vq64) rfl rfl) (rV (r_extract (v := vr66) rfl rfl) (aS (v := vq64) rfl (aS (v := vr66) rfl (RL.nil (wsr (mV (v := vq64) rfl (mV (v := vr66) rfl (aS (v := vq64) rfl (aS (v := vr66) rfl (aS (v := (.bool true)) rfl (RL.nil ?_))))))))))))
 refine wret ?_
 refine ⟨[vq64, vr66, (.bool true)], ⟨rfl, ⟨rfl, ⟨rfl, trivial⟩⟩⟩, ?_⟩
 exact ⟨⟨_, _, by rw [decide_eq_true hy0]; rfl, hq65, by rw [modZ, if_neg hy0]; exact hr67⟩, hE⟩
end Go.Proofs.YtelbjmhhbeijkaaGreat
namespace Go.Vm
def sgn (e : Bool) : Int := match e with
  | true => 1
  | false => -1
theorem sgn_not (e : Bool) : sgn (!e) = -sgn e := by cases e <;> rfl
theorem sgn_sq (e : Bool) : sgn e * sgn e = 1 := by cases e <;> rfl
structure Leh (A B h X Y x y u0 u1 u2 v0 v1 v2 : Nat) (e : Bool) : Prop where
  fx : A / h = X
  fy : B / h = Y
  hh : 0 < h
  i1 : v2 * x + v1 * y = X
  i2 : u2 * x + u1 * y = Y
  s1 : (x : Int) = -sgn e * (u1 * X - v1 * Y)
  s2 : (y : Int) = sgn e * (u2 * X - v2 * Y)
  le2 : u2 ≤ v2
  les : u1 + u2 ≤ v1 + v2
  pos : 1 ≤ v2
  yx : y ≤ x
  det : (u1 : Int) * v2 - u2 * v1 = -sgn e
  st : (e = false ∧ u0 = 0 ∧ v0 = 0 ∧ u1 = 1 ∧ v1 = 0 ∧ u2 = 0 ∧ v2 = 1) ∨ ((u0 : Int) * v1 - u1 * v0 = sgn e ∧ 0 ≤ -sgn e * (u1 * A - v1 * B) ∧ -sgn e * (u1 * A - v1 * B) ≤ B ∧
    (v0 = 0 ∨ (-sgn e * (u1 * A - v1 * B) < sgn e * (u0 * A - v0 * B) ∧ sgn e * (u0 * A - v0 * B) ≤ B)))
theorem Leh.start {A B h : Nat} (hh : 0 < h) (hAB : B ≤ A) : Leh A B h (A / h) (B / h) (A / h) (B / h) 0 1 0 0 0 1 false := by
  refine ⟨rfl, rfl, hh, by omega, by omega, ?_, ?_, by omega, by omega, by omega, Nat.div_le_div_right hAB, rfl, .inl ⟨rfl, rfl, rfl, rfl, rfl, rfl, rfl⟩⟩
  · simp [sgn]
  simp [sgn]
theorem part_lo {u v α β h : Int} (e : Bool) (hu : 0 ≤ u) (huv : u ≤ v) (ha : 0 ≤ α) (ha' : α ≤ h - 1) (hb : 0 ≤ β) (hb' : β ≤ h - 1) : -(v * (h - 1)) ≤ sgn e * (u * α - v * β) := by
  have h1 : u * α ≤ v * (h - 1) := Int.le_trans (Int.mul_le_mul_of_nonneg_right huv ha) (Int.mul_le_mul_of_nonneg_left ha' oM)
  have h2 : v * β ≤ v * (h - 1) := Int.mul_le_mul_of_nonneg_left hb' oM
  have h3 : 0 ≤ u * α := Int.mul_nonneg hu ha
  have h4 : 0 ≤ v * β := Int.mul_nonneg oM hb
  cases e <;> simp only [sgn] <;> omega
theorem Leh.bounds {A B h X Y x y u0 u1 u2 v0 v1 v2 : Nat} {e : Bool} (H : Leh A B h X Y x y u0 u1 u2 v0 v1 v2 e) (hy : 1 ≤ y) : v1 + v2 ≤ X ∧ u1 + u2 ≤ Y ∧ v2 ≤ X ∧ u2 ≤ Y := by
  have h1 := H.i1
  have h2 := H.i2
  have hx : 1 ≤ x := Nat.le_trans hy H.yx
  have a1 := Nat.le_mul_of_pos_right v2 hx
  have a2 := Nat.le_mul_of_pos_right v1 hy
  have a3 := Nat.le_mul_of_pos_right u2 hx
  have a4 := Nat.le_mul_of_pos_right u1 hy
  omega
theorem Leh.step {A B h X Y x y u0 u1 u2 v0 v1 v2 : Nat} {e : Bool} (H : Leh A B h X Y x y u0 u1 u2 v0 v1 v2 e) (c1 : v2 ≤ y) (c2 : v1 + v2 ≤ x - y) :
    Leh A B h X Y y (x % y) u1 u2 (u1 + x / y * u2) v1 v2 (v1 + x / y * v2) (!e) ∧ x % y < y ∧ v1 + x / y * v2 ≤ X ∧ u1 + x / y * u2 ≤ Y := by
  have hy : 1 ≤ y := Nat.le_trans H.pos c1
  have hdm := Nat.div_add_mod x y
  have hlt := Nat.mod_lt x hy
  have hx := H.yx
  have hq : 1 ≤ x / y := (Nat.one_le_div_iff hy).2 hx
  generalize hqq : x / y = q at *
  generalize hrr : x % y = r at *
  have hxr : (x : Int) = y * q + r := by exact_mod_cast hdm.symm
  -- the true numbers
  obtain ⟨α, hα, hα1⟩ : ∃ α : Int, (A : Int) = X * h + α ∧ 0 ≤ α ∧ α ≤ h - 1 := by
    refine ⟨(A % h : Nat), ?_, by omega, by have := Nat.mod_lt A H.hh; omega⟩
    have := Nat.div_add_mod A h
    rw [H.fx] at this
    rw [← Int.natCast_mul, ← Int.natCast_add, Nat.mul_comm, this]
  obtain ⟨β, hβ, hβ1⟩ : ∃ β : Int, (B : Int) = Y * h + β ∧ 0 ≤ β ∧ β ≤ h - 1 := by
    refine ⟨(B % h : Nat), ?_, by omega, by have := Nat.mod_lt B H.hh; omega⟩
    have := Nat.div_add_mod B h
    rw [H.fy] at this
    rw [← Int.natCast_mul, ← Int.natCast_add, Nat.mul_comm, this]
  have hhI : (1 : Int) ≤ h := by have := H.hh; omega
  -- the next remainder and its distance
  have n1 : sgn e * (u2 * A - v2 * B) = y * h + sgn e * (u2 * α - v2 * β) := by
    rw [hα, hβ, H.s2]
    grind
  have n0 : -sgn e * (u1 * A - v1 * B) - sgn e * (u2 * A - v2 * B) = (x - y) * h + sgn (!e) * ((u1 + u2) * α - (v1 + v2) * β) := by
    rw [hα, hβ, sgn_not]
    have t1 := H.s1
    have t2 := H.s2
    rw [Int.sub_mul, t1, t2]
    grind
  have l1 := part_lo (u := u2) (v := v2) (α := α) (β := β) (h := h) e oM (by have := H.le2; omega) hα1.1 hα1.2 hβ1.1 hβ1.2
  have l0 := part_lo (u := u1 + u2) (v := v1 + v2) (α := α) (β := β) (h := h) (!e) oM (by have := H.les; omega) hα1.1 hα1.2 hβ1.1 hβ1.2
  have m1 : (v2 : Int) * h ≤ y * h := Int.mul_le_mul_of_nonneg_right oM oM
  have m0 : ((v1 : Int) + v2) * h ≤ (x - y) * h := Int.mul_le_mul_of_nonneg_right oM oM
  have e1 : (v2 : Int) * (h - 1) = v2 * h - v2 := by rw [Int.mul_sub, Int.mul_one]
  have e0 : ((v1 : Int) + v2) * (h - 1) = (v1 + v2) * h - (v1 + v2) := by rw [Int.mul_sub, Int.mul_one]
  have hp := H.pos
  have p1 : 0 ≤ sgn e * (u2 * A - v2 * B) := by rw [n1]; omega
  have p0 : sgn e * (u2 * A - v2 * B) < -sgn e * (u1 * A - v1 * B) := by omega
  have H' : Leh A B h X Y y r u1 u2 (u1 + q * u2) v1 v2 (v1 + q * v2) (!e) := by
    refine ⟨H.fx, H.fy, H.hh, ?_, ?_, ?_, ?_, ?_, ?_, ?_, by omega, ?_, ?_⟩
    · have := H.i1; grind
    · have := H.i2; grind
    · rw [sgn_not, Int.neg_neg]; exact H.s2
    · have t1 := H.s1
      have t2 := H.s2
      rw [sgn_not]
      have : (r : Int) = x - y * q := by omega
      rw [this, t1]
      have t3 : (y : Int) * q = sgn e * (u2 * X - v2 * Y) * q := by rw [← t2]
      rw [t3]
      push_cast
      grind
    · have a := H.le2
      have b := H.les
      have c := Nat.mul_le_mul_left (q - 1) a
      have d1 : q * u2 = (q - 1) * u2 + u2 := by rw [← Nat.succ_mul, Nat.succ_eq_add_one, Nat.sub_add_cancel hq]
      have d2 : q * v2 = (q - 1) * v2 + v2 := by rw [← Nat.succ_mul, Nat.succ_eq_add_one, Nat.sub_add_cancel hq]
      omega
    · have a := H.le2
      have b := H.les
      have c := Nat.mul_le_mul_left (q - 1) a
      have d1 : q * u2 = (q - 1) * u2 + u2 := by rw [← Nat.succ_mul, Nat.succ_eq_add_one, Nat.sub_add_cancel hq]
      have d2 : q * v2 = (q - 1) * v2 + v2 := by rw [← Nat.succ_mul, Nat.succ_eq_add_one, Nat.sub_add_cancel hq]
      omega
    · have := Nat.le_mul_of_pos_left v2 hq
      omega
    · have := H.det
      rw [sgn_not]
      push_cast
      grind
    right
    refine ⟨by rw [sgn_not]; exact H.det, by rw [sgn_not, Int.neg_neg]; exact p1, ?_, ?_⟩
    · rw [sgn_not, Int.neg_neg]
      rcases H.st with ⟨he, _, _, _, _, hu2, hv2⟩ | ⟨_, _, h3, _⟩
      · subst he hu2 hv2
        simp [sgn]
      omega
    rcases H.st with ⟨_, _, _, _, hv1, _, _⟩ | ⟨_, _, h3, _⟩
    · exact .inl hv1
    right
    rw [sgn_not, Int.neg_neg]
    exact ⟨p0, h3⟩
  refine ⟨H', hlt, ?_, ?_⟩
  · have t := H'.i1
    have := Nat.le_mul_of_pos_right (v1 + q * v2) hy
    omega
  have t := H'.i2
  have := Nat.le_mul_of_pos_right (u1 + q * u2) hy
  omega
theorem Leh.fin {A B h X Y x y u0 u1 u2 v0 v1 v2 : Nat} {e : Bool} (H : Leh A B h X Y x y u0 u1 u2 v0 v1 v2 e) (hv : v0 ≠ 0) :
    (e = true → v0 * B ≤ u0 * A ∧ u1 * A ≤ v1 * B ∧ Nat.gcd (u0 * A - v0 * B) (v1 * B - u1 * A) = Nat.gcd A B ∧ v1 * B - u1 * A < u0 * A - v0 * B ∧ u0 * A - v0 * B ≤ B) ∧
    (e = false → u0 * A ≤ v0 * B ∧ v1 * B ≤ u1 * A ∧ Nat.gcd (v0 * B - u0 * A) (u1 * A - v1 * B) = Nat.gcd A B ∧ u1 * A - v1 * B < v0 * B - u0 * A ∧ v0 * B - u0 * A ≤ B) := by
  rcases H.st with ⟨_, _, h, _⟩ | ⟨hd, h1, h2, h3⟩
  · exact absurd h hv
  have h3 := h3.resolve_left hv
  have key : ∀ a b : Nat, (a : Int) = sgn e * (u0 * A - v0 * B) → (b : Int) = -sgn e * (u1 * A - v1 * B) → Nat.gcd a b = Nat.gcd A B := by
    intro a b ha hb
    have k1 : A = v1 * a + v0 * b := by
      have : (A : Int) = v1 * a + v0 * b := by
        rw [ha, hb]
        have := sgn_sq e
        have e2 : (v1 : Int) * (sgn e * (u0 * A - v0 * B)) + v0 * (-sgn e * (u1 * A - v1 * B)) = sgn e * A * (u0 * v1 - u1 * v0) := by grind
        rw [e2, hd]
        grind
      exact_mod_cast this
    have k2 : B = u1 * a + u0 * b := by
      have : (B : Int) = u1 * a + u0 * b := by
        rw [ha, hb]
        have := sgn_sq e
        have e2 : (u1 : Int) * (sgn e * (u0 * A - v0 * B)) + u0 * (-sgn e * (u1 * A - v1 * B)) = sgn e * B * (u0 * v1 - u1 * v0) := by grind
        rw [e2, hd]
        grind
      exact_mod_cast this
    apply Nat.dvd_antisymm
    · refine Nat.dvd_gcd ?_ ?_
      · rw [k1]; exact Nat.dvd_add (Nat.dvd_trans (Nat.gcd_dvd_left a b) (Nat.dvd_mul_left ..)) (Nat.dvd_trans (Nat.gcd_dvd_right a b) (Nat.dvd_mul_left ..))
      rw [k2]; exact Nat.dvd_add (Nat.dvd_trans (Nat.gcd_dvd_left a b) (Nat.dvd_mul_left ..)) (Nat.dvd_trans (Nat.gcd_dvd_right a b) (Nat.dvd_mul_left ..))
    have hA : ((Nat.gcd A B : Nat) : Int) ∣ (A : Int) := Int.natCast_dvd_natCast.2 (Nat.gcd_dvd_left A B)
    have hB : ((Nat.gcd A B : Nat) : Int) ∣ (B : Int) := Int.natCast_dvd_natCast.2 (Nat.gcd_dvd_right A B)
    refine Nat.dvd_gcd ?_ ?_
    · rw [← Int.natCast_dvd_natCast, ha]
      exact Int.dvd_trans (Int.dvd_sub (Int.dvd_trans hA (Int.dvd_mul_left ..)) (Int.dvd_trans hB (Int.dvd_mul_left ..))) (Int.dvd_mul_left ..)
    rw [← Int.natCast_dvd_natCast, hb]
    exact Int.dvd_trans (Int.dvd_sub (Int.dvd_trans hA (Int.dvd_mul_left ..)) (Int.dvd_trans hB (Int.dvd_mul_left ..))) (Int.dvd_mul_left ..)
  constructor
  · intro he
    subst he
    simp only [sgn, Int.one_mul, Int.neg_mul] at h1 h2 h3 key
    have c1 : v0 * B ≤ u0 * A := by
      have : (v0 : Int) * B ≤ u0 * A := by omega
      exact_mod_cast this
    have c2 : u1 * A ≤ v1 * B := by
      have : (u1 : Int) * A ≤ v1 * B := by omega
      exact_mod_cast this
    have w1 : ((u0 * A - v0 * B : Nat) : Int) = u0 * A - v0 * B := by rw [Int.natCast_sub c1]; push_cast; rfl
    have w2 : ((v1 * B - u1 * A : Nat) : Int) = v1 * B - u1 * A := by rw [Int.natCast_sub c2]; push_cast; rfl
    refine ⟨c1, c2, key _ _ w1 (by rw [w2]; omega), ?_, ?_⟩
    · have : ((v1 * B - u1 * A : Nat) : Int) < ((u0 * A - v0 * B : Nat) : Int) := by rw [w1, w2]; omega
      exact_mod_cast this
    have : ((u0 * A - v0 * B : Nat) : Int) ≤ (B : Int) := by rw [w1]; omega
    exact_mod_cast this
  intro he
  subst he
  simp only [sgn, Int.one_mul, Int.neg_mul, Int.neg_neg] at h1 h2 h3 key
  have c1 : u0 * A ≤ v0 * B := by
    have : (u0 : Int) * A ≤ v0 * B := by omega
    exact_mod_cast this
  have c2 : v1 * B ≤ u1 * A := by
    have : (v1 : Int) * B ≤ u1 * A := by omega
    exact_mod_cast this
  have w1 : ((v0 * B - u0 * A : Nat) : Int) = v0 * B - u0 * A := by rw [Int.natCast_sub c1]; push_cast; rfl
  have w2 : ((u1 * A - v1 * B : Nat) : Int) = u1 * A - v1 * B := by rw [Int.natCast_sub c2]; push_cast; rfl
  refine ⟨c1, c2, key _ _ (by rw [w1]; omega) w2, ?_, ?_⟩
  · have : ((u1 * A - v1 * B : Nat) : Int) < ((v0 * B - u0 * A : Nat) : Int) := by rw [w1, w2]; omega
    exact_mod_cast this
  have : ((v0 * B - u0 * A : Nat) : Int) ≤ (B : Int) := by rw [w1]; omega
  exact_mod_cast this
end Go.Vm
namespace Go.Vm
theorem win_law {x : List Nat} {n s : Nat} (lm : Lm x) (hn : 3 ≤ n) (hl : x.length ≤ n) (hs : s ≤ 31) : val x / (4294967296 ^ (n - 3) * 2 ^ (32 - s)) = (dig x (n - 1) * 4294967296 + dig x (n - 2)) * 2 ^ s + dig x (n - 3) / 2 ^ (32 - s) := by
  rw [← Nat.div_div_eq_div_mul, div_pow_drop lm, val_drop_dig, show n - 3 + 1 = n - 2 by omega, val_drop_dig x (n - 2), show n - 2 + 1 = n - 1 by omega, val_drop_dig x (n - 1), List.drop_of_length_le oM]
  have e : (4294967296 : Nat) = 2 ^ (32 - s) * 2 ^ s := by rw [← Nat.pow_add, show 32 - s + s = 32 by omega]
  have hp : 0 < 2 ^ (32 - s) := Nat.pow_pos dC
  simp only [val, Nat.mul_zero, Nat.add_zero]
  have e2 : dig x (n - 3) + 4294967296 * (dig x (n - 2) + 4294967296 * dig x (n - 1)) = dig x (n - 3) + 2 ^ (32 - s) * ((dig x (n - 1) * 4294967296 + dig x (n - 2)) * 2 ^ s) := by
    congr 1
    rw [Nat.add_comm (dig x (n - 2)), Nat.mul_comm 4294967296 (dig x (n - 1)), Nat.mul_comm ((dig x (n - 1) * 4294967296 + dig x (n - 2))) (2 ^ s), ← Nat.mul_assoc, ← e]
  rw [e2, Nat.add_mul_div_left _ _ hp, Nat.add_comm]
theorem win_fit {d1 d2 d3 s : Nat} (hs : s ≤ 31) (h1 : d1 * 2 ^ s < 4294967296) (h2 : d2 < 4294967296) (h3 : d3 < 4294967296) : (d1 * 4294967296 + d2) * 2 ^ s + d3 / 2 ^ (32 - s) < 18446744073709551616 ∧ (d1 * 4294967296 + d2) * 2 ^ s < 18446744073709551616 ∧ d3 / 2 ^ (32 - s) < 2 ^ s := by
  have e : (4294967296 : Nat) = 2 ^ (32 - s) * 2 ^ s := by rw [← Nat.pow_add, show 32 - s + s = 32 by omega]
  have hp : 0 < 2 ^ (32 - s) := Nat.pow_pos dC
  have h5 : d3 / 2 ^ (32 - s) < 2 ^ s := (Nat.div_lt_iff_lt_mul hp).2 (by rw [Nat.mul_comm, ← e]; exact h3)
  have h4 : (d1 + 1) * 2 ^ s ≤ 4294967296 := by
    rw [e] at h1 ⊢
    exact Nat.mul_le_mul_right _ (Nat.lt_of_mul_lt_mul_right h1)
  have h6 : (d1 * 4294967296 + d2 + 1) * 2 ^ s ≤ 18446744073709551616 := by
    have h7 : (d1 * 4294967296 + d2 + 1) * 2 ^ s ≤ ((d1 + 1) * 4294967296) * 2 ^ s := Nat.mul_le_mul_right _ oM
    have h8 : ((d1 + 1) * 4294967296) * 2 ^ s = ((d1 + 1) * 2 ^ s) * 4294967296 := by rw [Nat.mul_right_comm]
    omega
  rw [Nat.add_mul, Nat.one_mul] at h6
  generalize d3 / 2 ^ (32 - s) = r at *
  exact ⟨by omega, by omega, h5⟩
theorem dig_div {x : List Nat} {n : Nat} (lm : Lm x) (h1 : 1 ≤ n) (hl : x.length ≤ n) : dig x (n - 1) = val x / 4294967296 ^ (n - 1) := by
  rw [div_pow_drop lm, val_drop_dig, show n - 1 + 1 = n by omega, List.drop_of_length_le hl]
  simp [val]
theorem dig_mono {x y : List Nat} {n : Nat} (lx : Lm x) (ly : Lm y) (h1 : 1 ≤ n) (hx : x.length ≤ n) (hy : y.length ≤ n) (h : val y ≤ val x) : dig y (n - 1) ≤ dig x (n - 1) := by
  rw [dig_div lx h1 hx, dig_div ly h1 hy]
  exact Nat.div_le_div_right h
end Go.Vm
namespace Go.Proofs.YtelbjmhhbeijkaaGreat
open Go.Vg Go.RowKit _root_.Go.Proofs.Tryz
set_option linter.unusedVariables false
open Go.Vm
theorem shlW {x s : Nat} (hs : s ≤ 31) (h : x * 2 ^ s < 18446744073709551616) : IntKind.u64.wrap ((x : Int) * 2 ^ (min (s : Int).toNat IntKind.u64.bits)) = ((x * 2 ^ s : Nat) : Int) := by
  rw [Int.toNat_natCast, show min s IntKind.u64.bits = s from Nat.min_eq_left (Nat.le_trans hs dC)]
  rw [show ((x : Int) * 2 ^ s) = ((x * 2 ^ s : Nat) : Int) by simp]
  generalize x * 2 ^ s = p at *
  exact wu64 oM
theorem shrW {x s : Nat} (hs : s ≤ 32) : (x : Int).fdiv (2 ^ (min (s : Int).toNat IntKind.u64.bits)) = ((x / 2 ^ s : Nat) : Int) := by
  rw [Int.toNat_natCast, show min s IntKind.u64.bits = s from Nat.min_eq_left (Nat.le_trans hs dC), Int.fdiv_eq_ediv_of_nonneg _ (Int.le_of_lt (Int.pow_pos dC))]
  simp
theorem orW {c x s : Nat} (hc : c < 2 ^ s) (hb : x * 2 ^ s + c < 18446744073709551616) : IntKind.u64.wrap ((BitVec.ofInt IntKind.u64.bits ((x * 2 ^ s : Nat) : Int) ||| BitVec.ofInt IntKind.u64.bits (c : Int)).toNat : Int) = ((x * 2 ^ s + c : Nat) : Int) := by
  have h := orS (x := x) hc (by rw [Nat.add_comm]; exact hb)
  rw [Nat.add_comm, ← h]
  congr 2
  exact congrArg BitVec.toNat (BitVec.or_comm _ _)
set_option maxHeartbeats 1000000 in
theorem n_limb {w : World} {D : Nat → TypeId → Prop} {vx : Value} {x : List Nat} {b i : Nat} (hb : Bk w b 40 [vx]) (hx : Sg (gN .u32) D w vx x) (lmx : Lm x) (hi : i ≤ 9223372036854775807) :
    Calls Tryz.prog 133 #[(iv i), (.pointer (some ⟨b, 0, none⟩))] w fun e w' => ∃ v, e = .returned v ∧ v = .int .u64 ((dig x i : Nat) : Int) ∧ w = w' := by
 refine calls_of (n := 13) (rs := [.tmp 3]) func133 rfl rfl rfl bL ?_
 refine wset fun F0 hF0 => ?_
 refine wsr (aS (v := (.int .u64 0)) rfl (RL.nil (wseq (wsr (mV (v := (iv i)) (hF0 0) ?_)))))
 have hc1 := hb.cell (j := 0) (u := vx) rfl
 refine rV (r_load uT40 ag40 (hF0 1) hc1) ?_
 obtain ⟨A2, c3, hv4, hc5, hc6⟩ := hx.len
 refine rV (r_len uT40 hv4) (rV (r_lss (k := .i64) (a := (i : Int)) (b := ((x.length : Nat) : Int)) rfl rfl) (RL.nil ?_))
 refine wcD (p := (i : Int) < ((x.length : Nat) : Int)) rfl (fun hb7 hb7p => ?_) (fun hb7 hb7p => ?_)
 ·have hil : i < x.length := by omega
  have hxi := lmx.at hil
  refine wsr ?_
  have hc8 := hb.cell (j := 0) (u := vx) rfl
  refine rV (r_load uT40 ag40 (hF0 1) hc8) (mV (v := (iv i)) (hF0 0) ?_)
  obtain ⟨b9, o10, c11, hv12, hc13⟩ := hx.ix (i := (i : Int)) (i) oM oM
  refine rV (r_indexAddr (i := (i : Int)) uT40 ty89 hv12 rfl oM oM) (rV (r_load (v := (.int .u32 (((x.getD (i) default : Nat) : Int)))) uT89 ag89 rfl hc13) (rV (r_conv (k := .u64) (a := ((x.getD (i) default : Nat) : Int)) (c := ((x.getD (i) default : Nat) : Int)) uT89 uT73 rfl (wu64 oM)) (aS (v := (.int .u64 (((x.getD (i) default : Nat) : Int)))) rfl (RL.nil ?_))))
  refine wret ?_
  refine ⟨[(.int .u64 (((x.getD (i) default : Nat) : Int)))], ⟨rfl, trivial⟩, ?_⟩
  exact ⟨int_eq (by rw [dig_t hil]), rfl⟩
 refine wskip ?_
 refine wsr (aS (v := (.int .u64 0)) rfl (RL.nil ?_))
 refine wret ?_
 refine ⟨[(.int .u64 0)], ⟨rfl, trivial⟩, ?_⟩
 exact ⟨int_eq (by rw [dig_f oM]; rfl), rfl⟩
set_option maxHeartbeats 1000000 in
theorem n_window {w : World} {Dx : Nat → TypeId → Prop} {vx : Value} {x : List Nat} (hx0 : Sg (gN .u32) Dx w vx x) (lmx : Lm x) (lnx : x.length ≤ 1099511627776) {n sh : Nat} (hs : sh ≤ 31) (hn3 : 3 ≤ n) (hln : x.length ≤ n) (hnb : n ≤ 1099511627776) (htop : dig x (n - 1) * 2 ^ sh < 4294967296) :
    Calls Tryz.prog 127 #[vx, (iv n), (iv sh)] w fun e w' => ∃ v, e = .returned v ∧ (v = .int .u64 ((val x / (4294967296 ^ (n - 3) * 2 ^ (32 - sh)) : Nat) : Int) ∧ val x / (4294967296 ^ (n - 3) * 2 ^ (32 - sh)) < 18446744073709551616) ∧ Ext w w' := by
 have hE : Below w.heap.size w w := Below.refl _ _
 have hx := hx0.old
 clear hx0
 have hlvx := dl_val lmx
 refine calls_of (n := 29) (rs := [.tmp 6]) func127 rfl rfl rfl bL ?_
 refine wset fun F0 hF0 => ?_
 refine wsr ?_
 refine rU (h_box (vv := vx) (cs := [vx]) (hF0 0) (cells_one hx.one)) ?_
 rintro _ w1 ⟨b2, rfl, hs5, hb4, he3⟩
 have ge_b2 := hE.ge hs5
 refine aS (v := (.int .u64 0)) rfl (RL.nil (wsr (rV (r_makeFunc (vl := [(.pointer (some ⟨b2, 0, none⟩))]) rfl) (aS (v := (.func (.func 133) #[] #[(.pointer (some ⟨b2, 0, none⟩))])) rfl (RL.nil (wseq ?_))))))
 have hd1 := dig_lt lmx (n - 1)
 have hd2 := dig_lt lmx (n - 2)
 have hd3 := dig_lt lmx (n - 3)
 have hfit := win_fit hs htop hd2 hd3
 have hwin := win_law lmx hn3 hln hs
 refine wdraw mixed fun w6 he7 => ?_
 replace hE := (hE.nx he3).nx he7
 refine aM 0 rfl (v := (.func (.func 133) #[] #[(.pointer (some ⟨b2, 0, none⟩))])) rfl ?_
 refine aM 1 rfl (v := (iv n)) (hF0 1) ?_
 refine ra 2 rfl (fun _ => r_sub (k := .i64) (a := (n : Int)) (b := 1) (c := ((n - 1 : Nat) : Int)) rfl rfl ((wi64 oM).trans oM)) ?_
 refine aM 5 rfl (v := (.func (.func 133) #[] #[(.pointer (some ⟨b2, 0, none⟩))])) rfl ?_
 refine aM 6 rfl (v := (iv n)) (hF0 1) ?_
 refine ra 7 rfl (fun _ => r_sub (k := .i64) (a := (n : Int)) (b := 2) (c := ((n - 2 : Nat) : Int)) rfl rfl ((wi64 oM).trans oM)) ?_
 refine aM 10 rfl (v := (iv sh)) (hF0 2) ?_
 refine aM 12 rfl (v := (.func (.func 133) #[] #[(.pointer (some ⟨b2, 0, none⟩))])) rfl ?_
 refine aM 13 rfl (v := (iv n)) (hF0 1) ?_
 refine ra 14 rfl (fun _ => r_sub (k := .i64) (a := (n : Int)) (b := 3) (c := ((n - 3 : Nat) : Int)) rfl rfl ((wi64 oM).trans oM)) ?_
 refine aM 16 rfl (v := (iv sh)) (hF0 2) ?_
 refine ra 17 rfl (fun _ => r_sub (k := .i64) (a := 32) (b := (sh : Int)) (c := ((32 - sh : Nat) : Int)) rfl rfl ((wi64 oM).trans oM)) ?_
 refine RA.all [3] kR rfl ?_
 replace hb4 := hb4.ext he7
 replace hx := hx.tr (Sm.ext (Ext.trans he3 he7))
 refine RS.call rfl rfl rfl dC (r_callv (vl := [(iv (n - 1 : Nat))]) (cl := [(.pointer (some ⟨b2, 0, none⟩))]) rfl ent133 rfl) (n_limb (i := n - 1) hb4 hx lmx oM) ?_ RS.nil
 rintro _ _ ⟨rfl, rfl⟩
 refine rm (Ext.refl _) ?_
 refine ra 4 rfl (fun _ => r_shl (k := .u64) (a := ((dig x (n - 1) : Nat) : Int)) (b := 32) (c := (((dig x (n - 1)) * 4294967296 : Nat) : Int)) rfl rfl dC (shl32 hd1)) ?_
 refine RA.all [8] kR rfl ?_
 refine RS.call rfl rfl rfl dC (r_callv (vl := [(iv (n - 2 : Nat))]) (cl := [(.pointer (some ⟨b2, 0, none⟩))]) rfl ent133 rfl) (n_limb (i := n - 2) hb4 hx lmx oM) ?_ RS.nil
 rintro _ _ ⟨rfl, rfl⟩
 refine rm (Ext.refl _) ?_
 refine ra 9 rfl (fun _ => r_or (k := .u64) (a := (((dig x (n - 1)) * 4294967296 : Nat) : Int)) (b := ((dig x (n - 2) : Nat) : Int)) (c := (((dig x (n - 1)) * 4294967296 + (dig x (n - 2)) : Nat) : Int)) rfl rfl (or32 hd1 hd2)) ?_
 refine ra 11 rfl (fun _ => r_shl (k := .u64) (a := (((dig x (n - 1)) * 4294967296 + (dig x (n - 2)) : Nat) : Int)) (b := (sh : Int)) (c := ((((dig x (n - 1)) * 4294967296 + (dig x (n - 2))) * 2 ^ sh : Nat) : Int)) rfl rfl oM (shlW hs hfit.2.1)) ?_
 refine RA.all [15] kR rfl ?_
 refine RS.call rfl rfl rfl dC (r_callv (vl := [(iv (n - 3 : Nat))]) (cl := [(.pointer (some ⟨b2, 0, none⟩))]) rfl ent133 rfl) (n_limb (i := n - 3) hb4 hx lmx oM) ?_ RS.nil
 rintro _ _ ⟨rfl, rfl⟩
 refine rm (Ext.refl _) ?_
 refine ra 18 rfl (fun _ => r_shr (k := .u64) (a := ((dig x (n - 3) : Nat) : Int)) (b := ((32 - sh : Nat) : Int)) (c := (((dig x (n - 3)) / 2 ^ (32 - sh) : Nat) : Int)) rfl rfl oM (shrW oM)) ?_
 refine ra 19 rfl (fun _ => r_or (k := .u64) (a := ((((dig x (n - 1)) * 4294967296 + (dig x (n - 2))) * 2 ^ sh : Nat) : Int)) (b := (((dig x (n - 3)) / 2 ^ (32 - sh) : Nat) : Int)) (c := (((((dig x (n - 1)) * 4294967296 + (dig x (n - 2))) * 2 ^ sh + (dig x (n - 3)) / 2 ^ (32 - sh)) : Nat) : Int)) rfl rfl (orW hfit.2.2 hfit.1)) ?_
 refine aA 20 rfl (v := (.int .u64 ((((((dig x (n - 1)) * 4294967296 + (dig x (n - 2))) * 2 ^ sh + (dig x (n - 3)) / 2 ^ (32 - sh)) : Nat) : Int)))) rfl ?_
 refine RA.done kR ?_
 refine wret ?_
 refine ⟨[(.int .u64 ((((((dig x (n - 1)) * 4294967296 + (dig x (n - 2))) * 2 ^ sh + (dig x (n - 3)) / 2 ^ (32 - sh)) : Nat) : Int)))], ⟨rfl, trivial⟩, ?_⟩
 rw [hwin]
 exact ⟨⟨rfl, hfit.1⟩, hE⟩
end Go.Proofs.YtelbjmhhbeijkaaGreat
namespace Go.Proofs.YtelbjmhhbeijkaaGreat
open Go.Vg Go.RowKit _root_.Go.Proofs.Tryz
set_option linter.unusedVariables false
open Go.Vm
set_option maxHeartbeats 4000000 in
theorem n_leading {w : World} {Dx : Nat → TypeId → Prop} {vx : Value} {x : List Nat} (hx0 : Sg (gN .u32) Dx w vx x) (lmx : Lm x) (lnx : x.length ≤ 1099511627776) {Dy : Nat → TypeId → Prop} {vy : Value} {y : List Nat} (hy0 : Sg (gN .u32) Dy w vy y) (lmy : Lm y) (lny : y.length ≤ 1099511627776) (hl3 : 3 ≤ x.length) (htz : x.getD (x.length - 1) default ≠ 0) (hyx : y.length ≤ x.length) (hle : val y ≤ val x) :
    Calls Tryz.prog 114 #[vx, vy] w fun e w' => ∃ v, e = .returned v ∧ (∃ (u0 u1 v0 v1 : Nat) (e : Bool), v = .agg #[.int .u64 (u0 : Int), .int .u64 (u1 : Int), .int .u64 (v0 : Int), .int .u64 (v1 : Int), .bool e] ∧ u0 < 18446744073709551616 ∧ u1 < 18446744073709551616 ∧ v0 < 18446744073709551616 ∧ v1 < 18446744073709551616 ∧ (v0 ≠ 0 → (e = true → v0 * val y ≤ u0 * val x ∧ u1 * val x ≤ v1 * val y ∧ Nat.gcd (u0 * val x - v0 * val y) (v1 * val y - u1 * val x) = Nat.gcd (val x) (val y) ∧ v1 * val y - u1 * val x < u0 * val x - v0 * val y ∧ u0 * val x - v0 * val y ≤ val y) ∧ (e = false → u0 * val x ≤ v0 * val y ∧ v1 * val y ≤ u1 * val x ∧ Nat.gcd (v0 * val y - u0 * val x) (u1 * val x - v1 * val y) = Nat.gcd (val x) (val y) ∧ u1 * val x - v1 * val y < v0 * val y - u0 * val x ∧ v0 * val y - u0 * val x ≤ val y))) ∧ Ext w w' := by
 have hE : Below w.heap.size w w := Below.refl _ _
 have hx := hx0.old
 clear hx0
 have hy := hy0.old
 clear hy0
 have hlvx := dl_val lmx
 have hlvy := dl_val lmy
 refine calls_of (n := 74) (rs := [.cell 4 128]) func114 rfl rfl rfl bL ?_
 refine wset fun F0 hF0 => ?_
 refine wsr ?_
 refine rU (h_alloc (cs := [(.int .u64 0), (.int .u64 0), (.int .u64 0), (.int .u64 0), (.bool false)]) ty128 rfl) ?_
 rintro _ w1 ⟨b2, rfl, hs5, hb4, he3⟩
 have ge_b2 := hE.ge hs5
 refine RL.nil (wsr (mV (v := vx) (hF0 0) ?_))
 obtain ⟨A6, c7, hv8, hc9, hc10⟩ := hx.len
 refine rV (r_len uT40 hv8) (aS (v := (iv (x.length : Nat))) rfl (RL.nil (wseq ?_)))
 have htl := lmx.at (k := x.length - 1) oM
 refine wregion (mV (v := vx) (hF0 0) (mV (v := (iv (x.length : Nat))) rfl (rV (r_sub (k := .i64) (a := ((x.length : Nat) : Int)) (b := 1) (c := ((x.length : Nat) : Int) - 1) rfl rfl (wi64 oM)) ?_)))
 replace hx := hx.tr (Sm.ext he3)
 obtain ⟨b11, o12, c13, hv14, hc15⟩ := hx.ix (i := ((x.length : Nat) : Int) - 1) (x.length - 1) oM oM
 refine rV (r_indexAddr (i := ((x.length : Nat) : Int) - 1) uT40 ty89 hv14 rfl oM oM) (rV (r_load (v := (.int .u32 (((x.getD (x.length - 1) default : Nat) : Int)))) uT89 ag89 rfl hc15) ?_)
 refine cL ent126 (lead_spec (x := x.getD (x.length - 1) default) _ htz htl) rfl ?_
 rintro _ _ ⟨⟨sh, rfl, hs, hz1, hz2⟩, rfl⟩
 refine aS (v := (iv sh)) rfl (RL.nil (wseq ?_))
 have htx : dig x (x.length - 1) * 2 ^ sh < 4294967296 := by rw [dig_t oM]; exact hz2
 have hty : dig y (x.length - 1) * 2 ^ sh < 4294967296 := Nat.lt_of_le_of_lt (Nat.mul_le_mul_right _ (dig_mono lmx lmy oM (Nat.le_refl _) hyx hle)) htx
 refine wregion (mV (v := vx) (hF0 0) (mV (v := (iv (x.length : Nat))) rfl (mV (v := (iv sh)) rfl ?_)))
 refine cL ent127 (n_window hx (by assumption) oM hs hl3 oM oM htx) rfl ?_
 rintro _ w17 ⟨⟨rfl, hb19⟩, he18⟩
 have hX64 := hb19
 refine mV (v := vy) (hF0 1) (mV (v := (iv (x.length : Nat))) rfl (mV (v := (iv sh)) rfl ?_))
 replace hy := hy.tr (Sm.ext (Ext.trans he3 he18))
 refine cL ent127 (n_window hy (by assumption) oM hs hl3 oM oM hty) rfl ?_
 rintro _ w20 ⟨⟨rfl, hb22⟩, he21⟩
 have hY64 := hb22
 replace hE := ((hE.nx he3).nx he18).nx he21
 refine aS (v := (.int .u64 ((((val x) / (4294967296 ^ (x.length - 3) * 2 ^ (32 - sh)) : Nat) : Int)))) rfl (aS (v := (.int .u64 ((((val y) / (4294967296 ^ (x.length - 3) * 2 ^ (32 - sh)) : Nat) : Int)))) rfl (RL.nil (wseq ?_)))
 have hhp : 0 < (4294967296 ^ (x.length - 3) * 2 ^ (32 - sh)) := Nat.mul_pos (Nat.pow_pos dC) (Nat.pow_pos dC)
 refine wregion (aS (v := (.int .u64 0)) rfl (aS (v := (.int .u64 1)) rfl (aS (v := (.int .u64 0)) rfl (RL.nil (wsr (aS (v := (.int .u64 0)) rfl (aS (v := (.int .u64 0)) rfl (aS (v := (.int .u64 1)) rfl (RL.nil (wsr (aS (v := (.bool false)) rfl (RL.nil (wseq ?_)))))))))))))
 refine wblock ?_
 refine wset fun F23 hF24 => ?_
 refine wloop (σ := Nat × Nat × Nat × Nat × Nat × Nat × Nat × Nat × Bool) (fun (s : Nat × Nat × Nat × Nat × Nat × Nat × Nat × Nat × Bool) fl wl => match s with | (p, r, u0, u1, u2, v0, v1, v2, e) => Off (rg 7 10 (rg 33 35 [])) F23 fl ∧ fl 7 = (.int .u64 (p : Int)) ∧ fl 8 = (.int .u64 (r : Int)) ∧ fl 9 = (.int .u64 (u0 : Int)) ∧ fl 10 = (.int .u64 (u1 : Int)) ∧ fl 11 = (.int .u64 (u2 : Int)) ∧ fl 12 = (.int .u64 (v0 : Int)) ∧ fl 13 = (.int .u64 (v1 : Int)) ∧ fl 14 = (.int .u64 (v2 : Int)) ∧ fl 15 = (.bool e) ∧ (Leh (val x) (val y) (4294967296 ^ (x.length - 3) * 2 ^ (32 - sh)) (val x / (4294967296 ^ (x.length - 3) * 2 ^ (32 - sh))) (val y / (4294967296 ^ (x.length - 3) * 2 ^ (32 - sh))) p r u0 u1 u2 v0 v1 v2 e) ∧ (p < 18446744073709551616) ∧ (u0 < 18446744073709551616) ∧ (u1 < 18446744073709551616) ∧ (u2 < 18446744073709551616) ∧ (v0 < 18446744073709551616) ∧ (v1 < 18446744073709551616) ∧ (v2 < 18446744073709551616) ∧ (Sg (gN .u32) (fun b T => Dx b T ∧ b < w.heap.size) wl vx x) ∧ (Sg (gN .u32) (fun b T => Dy b T ∧ b < w.heap.size) wl vy y) ∧ (Below w.heap.size w wl) ∧ (Bk wl b2 128 [(.int .u64 0), (.int .u64 0), (.int .u64 0), (.int .u64 0), (.bool false)])) (fun (s : Nat × Nat × Nat × Nat × Nat × Nat × Nat × Nat × Bool) => match s with | (p, r, u0, u1, u2, v0, v1, v2, e) => r) ((val x / (4294967296 ^ (x.length - 3) * 2 ^ (32 - sh))), (val y / (4294967296 ^ (x.length - 3) * 2 ^ (32 - sh))), 0, 1, 0, 0, 0, 1, false) ?_ ?_
 ·replace hx := hx.tr (Sm.ext (Ext.trans he18 he21))
  replace hy := hy.tr (Sm.ext he21)
  replace hb4 := hb4.ext (Ext.trans he18 he21)
  exact ⟨Off.refl _ _, (hF24 7).trans (rfl), (hF24 8).trans (rfl), (hF24 9).trans (rfl), (hF24 10).trans (rfl), (hF24 11).trans (rfl), (hF24 12).trans (rfl), (hF24 13).trans (rfl), (hF24 14).trans (rfl), (hF24 15).trans (rfl), Leh.start hhp hle, hX64, by decide, by decide, by decide, by decide, by decide, by decide, hx, hy, hE, hb4⟩
 clear hx hy hE hb4
 rintro ⟨p, r, u0, u1, u2, v0, v1, v2, e⟩ f25 w26 ⟨G27, hs28, hs29, hs30, hs31, hs32, hs33, hs34, hs35, hs36, hL, hp64, hu0, hu1, hu2, hv0, hv1, hv2, hx, hy, hE, hb4⟩
 refine wseq (wseq ?_)
 have hbnd := fun h => hL.bounds (y := r) h
 have hpos := hL.pos
 have hyx2 := hL.yx
 refine wregion (mV hs29 (mV hs35 (rV (r_geq (k := .u64) (a := (r : Int)) (b := (v2 : Int)) rfl rfl) (mV (v := (bd ((v2 : Int) ≤ (r : Int)))) rfl ?_))))
 rcases bD ((v2 : Int) ≤ (r : Int)) with ⟨hb37, hb37p⟩ | ⟨hb37, hb37p⟩
 ·have hb0 := hbnd oM
  refine RL.gval rfl rfl (bool_eq hb37) rfl dC (r_move_as (v := (.int .u64 (p : Int))) hs28) ?_
  refine RL.gval rfl rfl (bool_eq hb37) rfl dC (r_move_as (v := (.int .u64 (r : Int))) hs29) ?_
  refine RL.gval rfl rfl (bool_eq hb37) rfl dC (r_sub (k := .u64) (a := (p : Int)) (b := (r : Int)) (c := ((p - r : Nat) : Int)) rfl rfl ((wu64 oM).trans oM)) ?_
  refine RL.gval rfl rfl (bool_eq hb37) rfl dC (r_move_as (v := (.int .u64 (v1 : Int))) hs34) ?_
  refine RL.gval rfl rfl (bool_eq hb37) rfl dC (r_move_as (v := (.int .u64 (v2 : Int))) hs35) ?_
  refine RL.gval rfl rfl (bool_eq hb37) rfl dC (r_add (k := .u64) (a := (v1 : Int)) (b := (v2 : Int)) (c := ((v1 + v2 : Nat) : Int)) rfl rfl ((wu64 oM).trans oM)) ?_
  refine RL.gval rfl rfl (bool_eq hb37) rfl dC (r_geq (k := .u64) (a := ((p - r : Nat) : Int)) (b := ((v1 + v2 : Nat) : Int)) rfl rfl) ?_
  refine rV (r_pick_t (v := (bd (((v1 + v2 : Nat) : Int) ≤ ((p - r : Nat) : Int)))) (bool_eq hb37) rfl) (RL.nil ?_)
  refine wcD (p := ((v1 + v2 : Nat) : Int) ≤ ((p - r : Nat) : Int)) rfl (fun hb38 hb38p => ?_) (fun hb38 hb38p => ?_)
  ·refine wskip ?_
   refine wblock ?_
   refine wseq ?_
   have hst := hL.step oM oM
   have hr1 : 1 ≤ r := by omega
   have hq1 := hst.2.2.1
   have hq2 := hst.2.2.2
   obtain ⟨m1, hm1⟩ : ∃ z, z = p / r * u2 := ⟨_, rfl⟩
   obtain ⟨m2, hm2⟩ : ∃ z, z = p / r * v2 := ⟨_, rfl⟩
   rw [← hm1] at hq2
   rw [← hm2] at hq1
   refine wregion (mV hs28 (mV hs29 (rV (r_quo (k := .u64) (a := (p : Int)) (b := (r : Int)) (c := ((p / r : Nat) : Int)) rfl rfl oM (quoN oM)) (aS (v := (.int .u64 (((p / r : Nat) : Int)))) rfl (RL.nil (wseq ?_))))))
   refine wdraw mixed fun w39 he40 => ?_
   replace hE := hE.nx he40
   refine aM 0 rfl (v := (.int .u64 (r : Int))) hs29 ?_
   refine aM 1 rfl (v := (.int .u64 (p : Int))) hs28 ?_
   refine aM 2 rfl (v := (.int .u64 (r : Int))) hs29 ?_
   refine ra 3 rfl (fun _ => r_rem (k := .u64) (a := (p : Int)) (b := (r : Int)) (c := ((p % r : Nat) : Int)) rfl rfl oM (remN _ _)) ?_
   refine aA 4 rfl (v := (.int .u64 (r : Int))) rfl ?_
   refine aA 5 rfl (v := (.int .u64 (((p % r : Nat) : Int)))) rfl ?_
   refine RA.done kR ?_
   refine wsr (mV hs31 (mV hs32 (mV hs31 (mV (v := (.int .u64 (((p / r : Nat) : Int)))) rfl (mV hs32 (rV (r_mul (k := .u64) (a := ((p / r : Nat) : Int)) (b := (u2 : Int)) (c := ((p / r * u2 : Nat) : Int)) rfl rfl ((wu64 (by rw [← Int.natCast_mul, ← hm1]; omega)).trans (by rw [Int.natCast_mul]))) (rV (r_add (k := .u64) (a := (u1 : Int)) (b := ((p / r * u2 : Nat) : Int)) (c := ((u1 + p / r * u2 : Nat) : Int)) rfl rfl ((wu64 (by rw [← hm1]; omega)).trans oM)) (aS (v := (.int .u64 (u1 : Int))) rfl (aS (v := (.int .u64 (u2 : Int))) rfl (aS (v := (.int .u64 (((u1 + p / r * u2 : Nat) : Int)))) rfl (RL.nil (wsr (mV hs34 (mV hs35 (mV hs34 (mV (v := (.int .u64 (((p / r : Nat) : Int)))) rfl (mV hs35 (rV (r_mul (k := .u64) (a := ((p / r : Nat) : Int)) (b := (v2 : Int)) (c := ((p / r * v2 : Nat) : Int)) rfl rfl ((wu64 (by rw [← Int.natCast_mul, ← hm2]; omega)).trans (by rw [Int.natCast_mul]))) (rV (r_add (k := .u64) (a := (v1 : Int)) (b := ((p / r * v2 : Nat) : Int)) (c := ((v1 + p / r * v2 : Nat) : Int)) rfl rfl ((wu64 (by rw [← hm2]; omega)).trans oM)) (aS (v := (.int .u64 (v1 : Int))) rfl (aS (v := (.int .u64 (v2 : Int))) rfl (aS (v := (.int .u64 (((v1 + p / r * v2 : Nat) : Int)))) rfl (RL.nil (wregion (mV hs36 (rV (r_not rfl) (aS (v := (.bool (!e))) rfl (RL.nil ?_))))))))))))))))))))))))))))
   replace hx := hx.tr (Sm.ext he40)
   replace hy := hy.tr (Sm.ext he40)
   replace hb4 := hb4.ext he40
   refine ⟨(r, p % r, u1, u2, u1 + p / r * u2, v1, v2, v1 + p / r * v2, !e), ⟨?_, ?_, ?_, ?_, ?_, ?_, ?_, ?_, ?_, ?_, ?_, ?_, ?_, ?_, ?_, ?_, ?_, ?_, ?_, ?_, ?_, ?_⟩, ?_⟩
   · exact (by repeat (first | exact G27 | refine Off.st ?_ dC _))
   · first | rfl | exact int_eq oM | exact bool_eq (by simp)
   · first | rfl | exact int_eq oM | exact bool_eq (by simp)
   · first | rfl | exact int_eq oM | exact bool_eq (by simp)
   · first | rfl | exact int_eq oM | exact bool_eq (by simp)
   · first | rfl | exact int_eq oM | exact bool_eq (by simp)
   · first | rfl | exact int_eq oM | exact bool_eq (by simp)
   · first | rfl | exact int_eq oM | exact bool_eq (by simp)
   · first | rfl | exact int_eq oM | exact bool_eq (by simp)
   · first | rfl | exact int_eq oM | exact bool_eq (by simp)
   · exact hst.1
   · omega
   · omega
   · omega
   · rw [← hm1]; omega
   · omega
   · omega
   · rw [← hm2]; omega
   · exact hx
   · exact hy
   · exact hE
   · exact hb4
   exact Nat.mod_lt _ hr1
  refine wexit ?_
  refine wsr (mV hs30 (mV hs31 (mV hs33 (mV hs34 (mV hs36 (rV (r_build (vl := [(0, (.int .u64 (u0 : Int))), (1, (.int .u64 (u1 : Int))), (2, (.int .u64 (v0 : Int))), (3, (.int .u64 (v1 : Int))), (4, (.bool e))]) (cs := [(.int .u64 (u0 : Int)), (.int .u64 (u1 : Int)), (.int .u64 (v0 : Int)), (.int .u64 (v1 : Int)), (.bool e)]) uT128 ty128 rfl (pl128 uT128) rfl) ?_))))))
  refine RL.runs rfl rfl (h_stA (cs := [(.int .u64 (u0 : Int)), (.int .u64 (u1 : Int)), (.int .u64 (v0 : Int)), (.int .u64 (v1 : Int)), (.bool e)]) (o := 0) ty128 ((G27 4 rfl).trans (hF24 4)) rfl rfl rfl (one_cons rfl (one_cons rfl (one_cons rfl (one_cons rfl (one_cons rfl one_nil))))) hb4 bL) ?_
  rintro w41 ⟨hn42, hx43, hz44⟩
  replace hE := hE.nb hx43 ge_b2
  replace hb4 : Bk w41 b2 128 [(.int .u64 (u0 : Int)), (.int .u64 (u1 : Int)), (.int .u64 (v0 : Int)), (.int .u64 (v1 : Int)), (.bool e)] := hn42
  refine RL.nil ?_
  refine wret ?_
  refine ⟨[(.agg #[(.int .u64 (u0 : Int)), (.int .u64 (u1 : Int)), (.int .u64 (v0 : Int)), (.int .u64 (v1 : Int)), (.bool e)])], ⟨⟨_, _, [(.int .u64 (u0 : Int)), (.int .u64 (u1 : Int)), (.int .u64 (v0 : Int)), (.int .u64 (v1 : Int)), (.bool e)], ((G27 4 rfl).trans (hF24 4)), ⟨_, uT128⟩, hb4.cells rfl, .inl ⟨ag128, ⟨_, _, ty128⟩, rfl⟩⟩, trivial⟩, ?_⟩
  exact ⟨⟨u0, u1, v0, v1, e, rfl, hu0, hu1, hv0, hv1, fun h => hL.fin h⟩, hE⟩
 refine RL.gno rfl rfl (bool_eq hb37) rfl dC ?_
 refine RL.gno rfl rfl (bool_eq hb37) rfl dC ?_
 refine RL.gno rfl rfl (bool_eq hb37) rfl dC ?_
 refine RL.gno rfl rfl (bool_eq hb37) rfl dC ?_
 refine RL.gno rfl rfl (bool_eq hb37) rfl dC ?_
 refine RL.gno rfl rfl (bool_eq hb37) rfl dC ?_
 refine RL.gno rfl rfl (bool_eq hb37) rfl dC ?_
 refine rV (r_pick_f (v := (.bool false)) (bool_eq hb37) rfl) (RL.nil ?_)
 refine wcond_f rfl ?_
 refine wexit ?_
 refine wsr (mV hs30 (mV hs31 (mV hs33 (mV hs34 (mV hs36 (rV (r_build (vl := [(0, (.int .u64 (u0 : Int))), (1, (.int .u64 (u1 : Int))), (2, (.int .u64 (v0 : Int))), (3, (.int .u64 (v1 : Int))), (4, (.bool e))]) (cs := [(.int .u64 (u0 : Int)), (.int .u64 (u1 : Int)), (.int .u64 (v0 : Int)), (.int .u64 (v1 : Int)), (.bool e)]) uT128 ty128 rfl (pl128 uT128) rfl) ?_))))))
 refine RL.runs rfl rfl (h_stA (cs := [(.int .u64 (u0 : Int)), (.int .u64 (u1 : Int)), (.int .u64 (v0 : Int)), (.int .u64 (v1 : Int)), (.bool e)]) (o := 0) ty128 ((G27 4 rfl).trans (hF24 4)) rfl rfl rfl (one_cons rfl (one_cons rfl (one_cons rfl (one_cons rfl (one_cons rfl one_nil))))) hb4 bL) ?_
 rintro w45 ⟨hn46, hx47, hz48⟩
 replace hE := hE.nb hx47 ge_b2
 replace hb4 : Bk w45 b2 128 [(.int .u64 (u0 : Int)), (.int .u64 (u1 : Int)), (.int .u64 (v0 : Int)), (.int .u64 (v1 : Int)), (.bool e)] := hn46
 refine RL.nil ?_
 refine wret ?_
 refine ⟨[(.agg #[(.int .u64 (u0 : Int)), (.int .u64 (u1 : Int)), (.int .u64 (v0 : Int)), (.int .u64 (v1 : Int)), (.bool e)])], ⟨⟨_, _, [(.int .u64 (u0 : Int)), (.int .u64 (u1 : Int)), (.int .u64 (v0 : Int)), (.int .u64 (v1 : Int)), (.bool e)], ((G27 4 rfl).trans (hF24 4)), ⟨_, uT128⟩, hb4.cells rfl, .inl ⟨ag128, ⟨_, _, ty128⟩, rfl⟩⟩, trivial⟩, ?_⟩
 exact ⟨⟨u0, u1, v0, v1, e, rfl, hu0, hu1, hv0, hv1, fun h => hL.fin h⟩, hE⟩
set_option maxHeartbeats 1000000 in
theorem n_combine {w : World} {Dx : Nat → TypeId → Prop} {vx : Value} {x : List Nat} (hx0 : Sg (gN .u32) Dx w vx x) (lmx : Lm x) (lnx : x.length ≤ 549755813888) {Dy : Nat → TypeId → Prop} {vy : Value} {y : List Nat} (hy0 : Sg (gN .u32) Dy w vy y) (lmy : Lm y) (lny : y.length ≤ 549755813888) {c d : Nat} (hc : c < 18446744073709551616) (hd : d < 18446744073709551616) :
    Calls Tryz.prog 115 #[vx, (.int .u64 (c : Int)), vy, (.int .u64 (d : Int))] w fun e w' => ∃ v, e = .returned v ∧ Sg (gN .u32) (fun b T => w.heap.size ≤ b ∧ T = 89) w' v (digs (val x * c - val y * d)) ∧ Ext w w' := by
 have hE : Below w.heap.size w w := Below.refl _ _
 have hx := hx0.old
 clear hx0
 have hy := hy0.old
 clear hy0
 have hlvx := dl_val lmx
 have hlvy := dl_val lmy
 refine calls_of (n := 24) (rs := [.tmp 8]) func115 rfl rfl rfl bL ?_
 refine wset fun F0 hF0 => ?_
 refine wsr (aS (v := (.slice none (0) (0))) rfl (RL.nil (wsr (mV (v := vx) (hF0 0) (mV (v := (.int .u64 (c : Int))) (hF0 1) ?_)))))
 refine cL ent90 (n_from oM) rfl ?_
 rintro vr3 w1 ⟨hr4, he2⟩
 replace hr4 := hr4.fr hE
 replace hE := hE.nx he2
 have hlv5 := dl_u64 (n := c) oM
 replace hx := hx.tr (Sm.ext he2)
 refine cL ent70 (n_mul hx (by assumption) oS hr4 (digs_lm _) oS) rfl ?_
 rintro vr8 w6 ⟨hr9, he7⟩
 try rw [val_digs] at hr9
 replace hr9 := hr9.fr hE
 replace hE := hE.nx he7
 have hlv10 := dl_val (x := x) (by assumption)
 have hlv11 := dl_mul (val x) c
 refine mV (v := vy) (hF0 2) (mV (v := (.int .u64 (d : Int))) (hF0 3) ?_)
 refine cL ent90 (n_from oM) rfl ?_
 rintro vr14 w12 ⟨hr15, he13⟩
 replace hr15 := hr15.fr hE
 replace hE := hE.nx he13
 have hlv16 := dl_u64 (n := d) oM
 have hm21 := Ext.trans he2 (Ext.trans he7 he13)
 replace hy := hy.tr (Sm.ext hm21)
 refine cL ent70 (n_mul hy (by assumption) oS hr15 (digs_lm _) oS) rfl ?_
 rintro vr19 w17 ⟨hr20, he18⟩
 try rw [val_digs] at hr20
 replace hr20 := hr20.fr hE
 replace hE := hE.nx he18
 have hlv22 := dl_val (x := y) (by assumption)
 have hlv23 := dl_mul (val y) d
 replace hr9 := hr9.tr (Sm.ext (Ext.trans he13 he18))
 refine cL ent102 (n_sub hr9 (digs_lm _) oS hr20 (digs_lm _) oS) rfl ?_
 rintro vq28 w24 ⟨⟨vr26, hq29, hr27⟩, he25⟩
 have hlv30 := dl_sub ((val x) * c) ((val y) * d)
 simp only [val_digs] at hq29 hr27
 subst hq29
 replace hr27 := hr27.fr hE
 replace hE := hE.nx he25
 refine mV (v := (.tuple #[vr26, (bd (((val y) * d) ≤ ((val x) * c)))])) rfl (rV (r_extract (v := vr26) rfl rfl) (rV (r_extract (v := (bd (((val y) * d) ≤ ((val x) * c)))) rfl rfl) (aS (v := vr26) rfl (aS (v := (bd (((val y) * d) ≤ ((val x) * c)))) rfl (RL.nil (wsr (mV (v := vr26) rfl (aS (v := vr26) rfl (RL.nil ?_)))))))))
 refine wret ?_
 refine ⟨[vr26], ⟨rfl, trivial⟩, ?_⟩
 exact ⟨hr27, hE⟩
end Go.Proofs.YtelbjmhhbeijkaaGreat
namespace Go.Proofs.YtelbjmhhbeijkaaGreat
open Go.Vg Go.RowKit _root_.Go.Proofs.Tryz
set_option linter.unusedVariables false
open Go.Vm
set_option maxHeartbeats 4000000 in
theorem n_gcd {w : World} {Dx : Nat → TypeId → Prop} {vx : Value} {x : List Nat} (hx0 : Sg (gN .u32) Dx w vx x) (lmx : Lm x) (lnx : x.length ≤ 549755813888) {Dy : Nat → TypeId → Prop} {vy : Value} {y : List Nat} (hy0 : Sg (gN .u32) Dy w vy y) (lmy : Lm y) (lny : y.length ≤ 549755813888) :
    Calls Tryz.prog 93 #[vx, vy] w fun e w' => ∃ v, e = .returned v ∧ Sg (gN .u32) (fun b T => w.heap.size ≤ b ∧ T = 89) w' v (digs (Nat.gcd (val x) (val y))) ∧ Ext w w' := by
 have hE : Below w.heap.size w w := Below.refl _ _
 have hx := hx0.old
 clear hx0
 have hy := hy0.old
 clear hy0
 have hlvx := dl_val lmx
 have hlvy := dl_val lmy
 refine calls_of (n := 86) (rs := [.tmp 4]) func93 rfl rfl rfl bL ?_
 refine wset fun F0 hF0 => ?_
 refine wsr (aS (v := (.slice none (0) (0))) rfl (RL.nil (wsr (mV (v := vx) (hF0 0) ?_))))
 refine cL ent100 (n_cut hx (by assumption) (by first | omega | (simp; done) | (simp; omega))) rfl ?_
 rintro vr2 _ ⟨hr3, rfl⟩
 have hlv4 := dl_val (x := x) (by assumption)
 refine mV (v := vy) (hF0 1) ?_
 refine cL ent100 (n_cut hy (by assumption) (by first | omega | (simp; done) | (simp; omega))) rfl ?_
 rintro vr6 _ ⟨hr7, rfl⟩
 have hlv8 := dl_val (x := y) (by assumption)
 refine aS (v := vr2) rfl (aS (v := vr6) rfl (RL.nil ?_))
 refine wset fun F9 hF10 => ?_
 refine wcut (fun fl wl => ∃ a : Nat, ∃ b : Nat, ∃ va : Value, ∃ vb : Value, Off (rg 0 2 (rg 15 6 [])) F9 fl ∧ fl 0 = va ∧ fl 1 = vb ∧ (b ≤ a) ∧ (Nat.gcd a b = Nat.gcd (val x) (val y)) ∧ ((digs a).length ≤ 549755813888) ∧ (Sg (gN .u32) (fun _ _ => True) wl va (digs a)) ∧ (Sg (gN .u32) (fun _ _ => True) wl vb (digs b)) ∧ (Sg (gN .u32) (fun b T => Dx b T ∧ b < w.heap.size) wl vx x) ∧ (Sg (gN .u32) (fun b T => Dy b T ∧ b < w.heap.size) wl vy y) ∧ (Below w.heap.size w wl) ∧ (Sg (gN .u32) (fun b T => Dx b T ∧ b < w.heap.size) wl vr2 (digs (val x))) ∧ (Sg (gN .u32) (fun b T => Dy b T ∧ b < w.heap.size) wl vr6 (digs (val y)))) ?_ ?_
 ·have G11 := Off.refl (rg 0 2 (rg 15 6 [])) F9
  refine wsr (mV (v := vr2) (hF10 0) (mV (v := vr6) (hF10 1) ?_))
  refine cL ent67 (n_compare hr3 (digs_lm _) oS hr7 (digs_lm _) oS) rfl ?_
  rintro vq15 w12 ⟨hq14, he13⟩
  simp only [val_digs] at hq14
  subst hq14
  replace hE := hE.nx he13
  refine rV (r_lss (k := .i64) (a := cmpI (((val x) : Nat) : Int) (((val y) : Nat) : Int)) (b := 0) rfl rfl) (RL.nil ?_)
  refine wcD (p := (cmpI (((val x) : Nat) : Int) (((val y) : Nat) : Int)) < 0) rfl (fun hb16 hb16p => ?_) (fun hb16 hb16p => ?_)
  ·have hlt : val x < val y := by have := cmpI_neg.1 hb16p; omega
   refine wregion (mV (v := vr6) (hF10 1) (mV (v := vr2) (hF10 0) (aS (v := vr6) rfl (aS (v := vr2) rfl (RL.nil ?_)))))
   replace hr7 := hr7.tr (Sm.ext he13)
   replace hr3 := hr3.tr (Sm.ext he13)
   replace hx := hx.tr (Sm.ext he13)
   replace hy := hy.tr (Sm.ext he13)
   refine ⟨(val y), (val x), vr6, vr2, ?_, ?_, ?_, ?_, ?_, ?_, ?_, ?_, ?_, ?_, ?_, ?_, ?_⟩
   · exact (by repeat (first | exact G11 | refine Off.st ?_ dC _))
   · rfl
   · rfl
   · omega
   · first | rfl | exact Nat.gcd_comm _ _
   · omega
   · exact hr7.mono (fun _ _ _ => trivial)
   · exact hr3.mono (fun _ _ _ => trivial)
   · exact hx
   · exact hy
   · exact hE
   · exact hr3
   exact hr7
  have hge : val y ≤ val x := by rcases Nat.lt_or_ge (val x) (val y) with h | h; exact absurd (cmpI_neg.2 oM) hb16p; exact h
  refine wskip ?_
  replace hr3 := hr3.tr (Sm.ext he13)
  replace hr7 := hr7.tr (Sm.ext he13)
  replace hx := hx.tr (Sm.ext he13)
  replace hy := hy.tr (Sm.ext he13)
  refine ⟨(val x), (val y), vr2, vr6, ?_, ?_, ?_, ?_, ?_, ?_, ?_, ?_, ?_, ?_, ?_, ?_, ?_⟩
  · exact (by repeat (first | exact G11 | refine Off.st ?_ dC _))
  · refine ((hF10 0)).trans ?_
    rfl
  · refine ((hF10 1)).trans ?_
    rfl
  · omega
  · first | rfl | exact Nat.gcd_comm _ _
  · omega
  · exact hr3.mono (fun _ _ _ => trivial)
  · exact hr7.mono (fun _ _ _ => trivial)
  · exact hx
  · exact hy
  · exact hE
  · exact hr3
  exact hr7
 clear hx hy hE hr3 hr7
 rintro f17 w18 ⟨a, b, va, vb, G19, hs20, hs21, hba, hg, hla, hA, hB, hx, hy, hE, hr3, hr7⟩
 refine wseq ?_
 refine wblock ?_
 refine wset fun F22 hF23 => ?_
 refine wloop (σ := Nat × Nat × Value × Value) (fun (s : Nat × Nat × Value × Value) fl wl => match s with | (a, b, va, vb) => Off (rg 0 2 (rg 4 7 (rg 21 63 []))) F22 fl ∧ fl 0 = va ∧ fl 1 = vb ∧ (b ≤ a) ∧ (Nat.gcd a b = Nat.gcd (val x) (val y)) ∧ ((digs a).length ≤ 549755813888) ∧ (Sg (gN .u32) (fun _ _ => True) wl va (digs a)) ∧ (Sg (gN .u32) (fun _ _ => True) wl vb (digs b)) ∧ (Sg (gN .u32) (fun b T => Dx b T ∧ b < w.heap.size) wl vx x) ∧ (Sg (gN .u32) (fun b T => Dy b T ∧ b < w.heap.size) wl vy y) ∧ (Below w.heap.size w wl) ∧ (Sg (gN .u32) (fun b T => Dx b T ∧ b < w.heap.size) wl vr2 (digs (val x))) ∧ (Sg (gN .u32) (fun b T => Dy b T ∧ b < w.heap.size) wl vr6 (digs (val y)))) (fun (s : Nat × Nat × Value × Value) => match s with | (a, b, va, vb) => b) (a, b, va, vb) ?_ ?_
 ·exact ⟨Off.refl _ _, (hF23 0).trans ((hs20).trans rfl), (hF23 1).trans ((hs21).trans rfl), hba, hg, hla, hA, hB, hx, hy, hE, hr3, hr7⟩
 clear hx hy hE hr3 hr7 hA hB
 rintro ⟨a, b, va, vb⟩ f24 w25 ⟨G26, hs27, hs28, hba, hg, hla, hA, hB, hx, hy, hE, hr3, hr7⟩
 refine wseq (wsr (mV hs28 ?_))
 obtain ⟨A29, c30, hv31, hc32, hc33⟩ := hB.len
 refine rV (r_len uT40 hv31) (rV (r_gtr (k := .i64) (a := (((digs b).length : Nat) : Int)) (b := 0) rfl rfl) (RL.nil ?_))
 refine wcD (p := 0 < (((digs b).length : Nat) : Int)) rfl (fun hb34 hb34p => ?_) (fun hb34 hb34p => ?_)
 ·have hb0 : b ≠ 0 := fun h => by rw [h, digs_zero] at hb34p; exact absurd hb34p dC
  have hll : (digs b).length ≤ (digs a).length := len_mono hba
  refine wskip ?_
  refine wblock ?_
  refine wseq (wsr (mV hs27 ?_))
  obtain ⟨A35, c36, hv37, hc38, hc39⟩ := hA.len
  refine rV (r_len uT40 hv37) (rV (r_leq (k := .i64) (a := (((digs a).length : Nat) : Int)) (b := 2) rfl rfl) (RL.nil ?_))
  refine wcD (p := (((digs a).length : Nat) : Int) ≤ 2) rfl (fun hb40 hb40p => ?_) (fun hb40 hb40p => ?_)
  ·have ha64 := len_u64.2 (show len a ≤ 2 by unfold len; omega)
   refine wsr (mV hs27 ?_)
   refine cL ent113 (n_word hA (digs_lm _) oM) rfl ?_
   rintro vq43 _ ⟨hq42, rfl⟩
   rw [val_digs] at hq42
   subst hq42
   refine mV hs28 ?_
   refine cL ent113 (n_word hB (digs_lm _) oM) rfl ?_
   rintro vq46 _ ⟨hq45, rfl⟩
   rw [val_digs] at hq45
   subst hq45
   refine aS (v := (.int .u64 (a : Int))) rfl (aS (v := (.int .u64 (b : Int))) rfl (RL.nil (wseq ?_)))
   refine wblock ?_
   refine wset fun F47 hF48 => ?_
   refine wloop (σ := Nat × Nat) (fun (s : Nat × Nat) fl wl => match s with | (c, d) => Off (rg 5 2 (rg 31 6 [])) F47 fl ∧ fl 5 = (.int .u64 (c : Int)) ∧ fl 6 = (.int .u64 (d : Int)) ∧ (Nat.gcd c d = Nat.gcd (val x) (val y)) ∧ (c < 18446744073709551616) ∧ (d < 18446744073709551616) ∧ (Sg (gN .u32) (fun b T => Dx b T ∧ b < w.heap.size) wl vx x) ∧ (Sg (gN .u32) (fun b T => Dy b T ∧ b < w.heap.size) wl vy y) ∧ (Below w.heap.size w wl) ∧ (Sg (gN .u32) (fun b T => Dx b T ∧ b < w.heap.size) wl vr2 (digs (val x))) ∧ (Sg (gN .u32) (fun b T => Dy b T ∧ b < w.heap.size) wl vr6 (digs (val y))) ∧ (Sg (gN .u32) (fun _ _ => True) wl va (digs a)) ∧ (Sg (gN .u32) (fun _ _ => True) wl vb (digs b))) (fun (s : Nat × Nat) => match s with | (c, d) => d) (a, b) ?_ ?_
   ·exact ⟨Off.refl _ _, (hF48 5).trans (rfl), (hF48 6).trans (rfl), hg, ha64, by omega, hx, hy, hE, hr3, hr7, hA, hB⟩
   clear hx hy hE hr3 hr7 hA hB
   rintro ⟨c, d⟩ f49 w50 ⟨G51, hs52, hs53, hcd, hc64, hd64, hx, hy, hE, hr3, hr7, hA, hB⟩
   refine wseq (wsr (mV hs53 (rV (r_neq (k := .u64) (a := (d : Int)) (b := 0) rfl rfl) (RL.nil ?_))))
   refine wcD (p := (d : Int) ≠ 0) rfl (fun hb54 hb54p => ?_) (fun hb54 hb54p => ?_)
   ·have hd0 : d ≠ 0 := by omega
    have hdm := Nat.mod_lt c (show 0 < d by omega)
    refine wskip ?_
    refine wblock ?_
    refine wdraw mixed fun w55 he56 => ?_
    replace hE := hE.nx he56
    refine aM 0 rfl (v := (.int .u64 (d : Int))) hs53 ?_
    refine aM 1 rfl (v := (.int .u64 (c : Int))) hs52 ?_
    refine aM 2 rfl (v := (.int .u64 (d : Int))) hs53 ?_
    refine ra 3 rfl (fun _ => r_rem (k := .u64) (a := (c : Int)) (b := (d : Int)) (c := ((c % d : Nat) : Int)) rfl rfl oM (remN _ _)) ?_
    refine aA 4 rfl (v := (.int .u64 (d : Int))) rfl ?_
    refine aA 5 rfl (v := (.int .u64 (((c % d : Nat) : Int)))) rfl ?_
    refine RA.done kR ?_
    replace hx := hx.tr (Sm.ext he56)
    replace hy := hy.tr (Sm.ext he56)
    replace hr3 := hr3.tr (Sm.ext he56)
    replace hr7 := hr7.tr (Sm.ext he56)
    replace hA := hA.tr (Sm.ext he56)
    replace hB := hB.tr (Sm.ext he56)
    refine ⟨(d, c % d), ⟨?_, ?_, ?_, ?_, ?_, ?_, ?_, ?_, ?_, ?_, ?_, ?_, ?_⟩, ?_⟩
    · exact (by repeat (first | exact G51 | refine Off.st ?_ dC _ | refine Off.via G26 dC ?_ | refine Off.eq hF23 ?_ | refine Off.via G19 dC ?_ | refine Off.eq hF10 ?_))
    · first | rfl | exact int_eq oM | exact bool_eq (by simp)
    · first | rfl | exact int_eq oM | exact bool_eq (by simp)
    · rw [← hcd, Nat.gcd_comm, ← Nat.gcd_rec, Nat.gcd_comm]
    · omega
    · omega
    · exact hx
    · exact hy
    · exact hE
    · exact hr3
    · exact hr7
    · exact hA
    · exact hB
    (try dsimp only)
    omega
   have hd0 : d = 0 := by omega
   refine wexit ?_
   refine wsr (mV hs52 ?_)
   refine cL ent90 (n_from oM) rfl ?_
   rintro vr59 w57 ⟨hr60, he58⟩
   replace hr60 := hr60.fr hE
   replace hE := hE.nx he58
   have hlv61 := dl_u64 (n := c) oM
   refine aS (v := vr59) rfl (RL.nil ?_)
   refine wret ?_
   refine ⟨[vr59], ⟨rfl, trivial⟩, ?_⟩
   rw [hd0, Nat.gcd_zero_right] at hcd
   rw [← hcd]
   exact ⟨hr60, hE⟩
  refine wskip ?_
  refine wsr (mV hs27 (mV hs28 ?_))
  refine cL ent114 (n_leading hA (digs_lm _) oM hB (digs_lm _) oM oM (top_nz oM) (len_mono hba) (by rw [val_digs, val_digs]; exact hba)) rfl ?_
  rintro _ w62 ⟨⟨u0, u1, v0, v1, e, rfl, hu0, hu1, hv0, hv1, hfn⟩, he63⟩
  simp only [val_digs] at hfn
  replace hE := hE.nx he63
  refine rU (h_alloc (cs := [(.int .u64 0), (.int .u64 0), (.int .u64 0), (.int .u64 0), (.bool false)]) ty128 rfl) ?_
  rintro _ w64 ⟨b65, rfl, hs68, hb67, he66⟩
  have ge_b65 := hE.ge hs68
  refine RL.runs rfl rfl (h_stA (cs := [(.int .u64 (u0 : Int)), (.int .u64 (u1 : Int)), (.int .u64 (v0 : Int)), (.int .u64 (v1 : Int)), (.bool e)]) (o := 0) ty128 rfl rfl rfl rfl (one_cons rfl (one_cons rfl (one_cons rfl (one_cons rfl (one_cons rfl one_nil))))) hb67 bL) ?_
  rintro w69 ⟨hn70, hx71, hz72⟩
  replace hE := (hE.nx he66).nb hx71 ge_b65
  have nb_hx71 := (Nb.of hb67 (nu_cons rfl (nu_cons rfl (nu_cons rfl (nu_cons rfl (nu_cons rfl nu_nil))))))
  replace hb67 : Bk w69 b65 128 [(.int .u64 (u0 : Int)), (.int .u64 (u1 : Int)), (.int .u64 (v0 : Int)), (.int .u64 (v1 : Int)), (.bool e)] := hn70
  refine RL.nil (wseq (wsr (rV (r_fieldAddr uT128 rfl ty73 rfl) ?_)))
  have hc73 := hb67.cell (j := 2) (u := (.int .u64 (v0 : Int))) rfl
  refine rV (r_load uT73 ag73 rfl hc73) (rV (r_eql (k := .u64) (a := (v0 : Int)) (b := 0) rfl rfl) (RL.nil ?_))
  refine wcD (p := (v0 : Int) = 0) rfl (fun hb74 hb74p => ?_) (fun hb74 hb74p => ?_)
  ·refine wsr ?_
   refine mV hs27 (mV hs28 ?_)
   replace hA := (hA.tr (Sm.ext (Ext.trans he63 he66))).apn hx71 nb_hx71
   replace hB := (hB.tr (Sm.ext (Ext.trans he63 he66))).apn hx71 nb_hx71
   refine cL ent94 (n_divmod hA (digs_lm _) oS hB (digs_lm _) oS) rfl ?_
   rintro vv81 w75 ⟨⟨vq77, vr79, hv82, hq78, hr80⟩, he76⟩
   simp only [val_digs] at hv82 hq78 hr80
   subst hv82
   have hlv83 := dl_div a b
   have hlv84 := dl_modZ a b
   have hlv85 := dl_modZ' a b
   replace hq78 := hq78.fr hE
   replace hr80 := hr80.fr hE
   replace hE := hE.nx he76
   refine mV (v := (.tuple #[vq77, vr79, (bd (b ≠ 0))])) rfl (rV (r_extract (v := vq77) rfl rfl) (rV (r_extract (v := vr79) rfl rfl) (rV (r_extract (v := (bd (b ≠ 0))) rfl rfl) (aS (v := vq77) rfl (aS (v := vr79) rfl (aS (v := (bd (b ≠ 0))) rfl (RL.nil (wsr (mV hs28 (mV (v := vr79) rfl (aS (v := vb) rfl (aS (v := vr79) rfl (RL.nil ?_)))))))))))))
   refine wexit ?_
   replace hB := hB.tr (Sm.ext he76)
   replace hx := ((hx.tr (Sm.ext (Ext.trans he63 he66))).tr (Sm.exc hx71 (fun _ _ _ _ hd => absurd hd.2 (Nat.not_lt_of_le ge_b65)))).tr (Sm.ext he76)
   replace hy := ((hy.tr (Sm.ext (Ext.trans he63 he66))).tr (Sm.exc hx71 (fun _ _ _ _ hd => absurd hd.2 (Nat.not_lt_of_le ge_b65)))).tr (Sm.ext he76)
   replace hr3 := ((hr3.tr (Sm.ext (Ext.trans he63 he66))).tr (Sm.exc hx71 (fun _ _ _ _ hd => absurd hd.2 (Nat.not_lt_of_le ge_b65)))).tr (Sm.ext he76)
   replace hr7 := ((hr7.tr (Sm.ext (Ext.trans he63 he66))).tr (Sm.exc hx71 (fun _ _ _ _ hd => absurd hd.2 (Nat.not_lt_of_le ge_b65)))).tr (Sm.ext he76)
   refine ⟨(b, (modZ a b), vb, vr79), ⟨?_, ?_, ?_, ?_, ?_, ?_, ?_, ?_, ?_, ?_, ?_, ?_, ?_⟩, ?_⟩
   · exact (by repeat (first | exact G26 | refine Off.st ?_ dC _ | refine Off.via G19 dC ?_ | refine Off.eq hF10 ?_))
   · first | rfl | exact int_eq oM | exact bool_eq (by simp)
   · first | rfl | exact int_eq oM | exact bool_eq (by simp)
   · rw [show modZ a b = a % b from if_neg hb0]; exact Nat.le_of_lt (Nat.mod_lt _ oM)
   · rw [← hg, show modZ a b = a % b from if_neg hb0, Nat.gcd_comm, ← Nat.gcd_rec, Nat.gcd_comm]
   · omega
   · exact hB.mono (fun _ _ _ => trivial)
   · exact hr80.mono (fun _ _ _ => trivial)
   · exact hx
   · exact hy
   · exact hE
   · exact hr3
   · exact hr7
   (try dsimp only)
   first | (rw [show modZ a b = a % b from if_neg hb0]; exact Nat.mod_lt _ oM) | exact Nat.lt_of_lt_of_le hf.2.2.2.1 hf.2.2.2.2
  have hv0n : v0 ≠ 0 := by omega
  refine wskip ?_
  refine wsr (rV (r_fieldAddr uT128 rfl ty4 rfl) ?_)
  have hc86 := hb67.cell (j := 4) (u := (.bool e)) rfl
  refine rV (r_load uT4 ag4 rfl hc86) (RL.nil ?_)
  refine wcond (b := e) rfl (fun hb87 => ?_) (fun hb87 => ?_)
  ·have hb87p := hb87
   have hf := (hfn hv0n).1 hb87
   rw [Nat.mul_comm u0, Nat.mul_comm v0, Nat.mul_comm v1, Nat.mul_comm u1] at hf
   refine wdraw mixed fun w88 he89 => ?_
   replace hE := hE.nx he89
   refine aM 0 rfl (v := va) hs27 ?_
   refine ra 1 rfl (fun _ => r_fieldAddr uT128 rfl ty73 rfl) ?_
   replace hb67 := hb67.ext he89
   have hc90 := hb67.cell (j := 0) (u := (.int .u64 (u0 : Int))) rfl
   refine aR 2 rfl (fun u hu => r_load uT73 ag73 rfl (cell_ext hu hc90)) ?_
   refine aM 3 rfl (v := vb) hs28 ?_
   refine ra 4 rfl (fun _ => r_fieldAddr uT128 rfl ty73 rfl) ?_
   have hc91 := hb67.cell (j := 2) (u := (.int .u64 (v0 : Int))) rfl
   refine aR 5 rfl (fun u hu => r_load uT73 ag73 rfl (cell_ext hu hc91)) ?_
   refine aM 7 rfl (v := vb) hs28 ?_
   refine ra 8 rfl (fun _ => r_fieldAddr uT128 rfl ty73 rfl) ?_
   have hc92 := hb67.cell (j := 3) (u := (.int .u64 (v1 : Int))) rfl
   refine aR 9 rfl (fun u hu => r_load uT73 ag73 rfl (cell_ext hu hc92)) ?_
   refine aM 10 rfl (v := va) hs27 ?_
   refine ra 11 rfl (fun _ => r_fieldAddr uT128 rfl ty73 rfl) ?_
   have hc93 := hb67.cell (j := 1) (u := (.int .u64 (u1 : Int))) rfl
   refine aR 12 rfl (fun u hu => r_load uT73 ag73 rfl (cell_ext hu hc93)) ?_
   refine RA.all [6] kR rfl ?_
   replace hA := ((hA.tr (Sm.ext (Ext.trans he63 he66))).apn hx71 nb_hx71).tr (Sm.ext he89)
   replace hB := ((hB.tr (Sm.ext (Ext.trans he63 he66))).apn hx71 nb_hx71).tr (Sm.ext he89)
   refine cS ent115 (n_combine hA (digs_lm _) oS hB (digs_lm _) oS oM oM) rfl rfl ?_ RS.nil
   rintro vr96 w94 ⟨hr97, he95⟩
   refine rm he95 ?_
   try rw [val_digs] at hr97
   try rw [val_digs] at hr97
   replace hr97 := hr97.fr hE
   replace hE := hE.nx he95
   refine RA.all [13] kR rfl ?_
   replace hB := hB.tr (Sm.ext he95)
   replace hA := hA.tr (Sm.ext he95)
   refine cS ent115 (n_combine hB (digs_lm _) oS hA (digs_lm _) oS oM oM) rfl rfl ?_ RS.nil
   rintro vr100 w98 ⟨hr101, he99⟩
   refine rm he99 ?_
   try rw [val_digs] at hr101
   try rw [val_digs] at hr101
   replace hr101 := hr101.fr hE
   replace hE := hE.nx he99
   refine aA 14 rfl (v := vr96) rfl ?_
   refine aA 15 rfl (v := vr100) rfl ?_
   refine RA.done kR ?_
   replace hr97 := hr97.tr (Sm.ext he99)
   have hm102 := Ext.trans he89 (Ext.trans he95 he99)
   replace hx := ((hx.tr (Sm.ext (Ext.trans he63 he66))).tr (Sm.exc hx71 (fun _ _ _ _ hd => absurd hd.2 (Nat.not_lt_of_le ge_b65)))).tr (Sm.ext hm102)
   replace hy := ((hy.tr (Sm.ext (Ext.trans he63 he66))).tr (Sm.exc hx71 (fun _ _ _ _ hd => absurd hd.2 (Nat.not_lt_of_le ge_b65)))).tr (Sm.ext hm102)
   replace hr3 := ((hr3.tr (Sm.ext (Ext.trans he63 he66))).tr (Sm.exc hx71 (fun _ _ _ _ hd => absurd hd.2 (Nat.not_lt_of_le ge_b65)))).tr (Sm.ext hm102)
   replace hr7 := ((hr7.tr (Sm.ext (Ext.trans he63 he66))).tr (Sm.exc hx71 (fun _ _ _ _ hd => absurd hd.2 (Nat.not_lt_of_le ge_b65)))).tr (Sm.ext hm102)
   refine ⟨((a * u0 - b * v0), (b * v1 - a * u1), vr96, vr100), ⟨?_, ?_, ?_, ?_, ?_, ?_, ?_, ?_, ?_, ?_, ?_, ?_, ?_⟩, ?_⟩
   · exact (by repeat (first | exact G26 | refine Off.st ?_ dC _ | refine Off.via G19 dC ?_ | refine Off.eq hF10 ?_))
   · first | rfl | exact int_eq oM | exact bool_eq (by simp)
   · first | rfl | exact int_eq oM | exact bool_eq (by simp)
   · exact Nat.le_of_lt hf.2.2.2.1
   · exact hf.2.2.1.trans hg
   · exact Nat.le_trans (len_mono (Nat.le_trans hf.2.2.2.2 hba)) hla
   · exact hr97.mono (fun _ _ _ => trivial)
   · exact hr101.mono (fun _ _ _ => trivial)
   · exact hx
   · exact hy
   · exact hE
   · exact hr3
   · exact hr7
   (try dsimp only)
   first | (rw [show modZ a b = a % b from if_neg hb0]; exact Nat.mod_lt _ oM) | exact Nat.lt_of_lt_of_le hf.2.2.2.1 hf.2.2.2.2
  have hb87p := hb87
  have hf := (hfn hv0n).2 hb87
  rw [Nat.mul_comm u0, Nat.mul_comm v0, Nat.mul_comm v1, Nat.mul_comm u1] at hf
  refine wdraw mixed fun w103 he104 => ?_
  replace hE := hE.nx he104
  refine aM 0 rfl (v := vb) hs28 ?_
  refine ra 1 rfl (fun _ => r_fieldAddr uT128 rfl ty73 rfl) ?_
  replace hb67 := hb67.ext he104
  have hc105 := hb67.cell (j := 2) (u := (.int .u64 (v0 : Int))) rfl
  refine aR 2 rfl (fun u hu => r_load uT73 ag73 rfl (cell_ext hu hc105)) ?_
  refine aM 3 rfl (v := va) hs27 ?_
  refine ra 4 rfl (fun _ => r_fieldAddr uT128 rfl ty73 rfl) ?_
  have hc106 := hb67.cell (j := 0) (u := (.int .u64 (u0 : Int))) rfl
  refine aR 5 rfl (fun u hu => r_load uT73 ag73 rfl (cell_ext hu hc106)) ?_
  refine aM 7 rfl (v := va) hs27 ?_
  refine ra 8 rfl (fun _ => r_fieldAddr uT128 rfl ty73 rfl) ?_
  have hc107 := hb67.cell (j := 1) (u := (.int .u64 (u1 : Int))) rfl
  refine aR 9 rfl (fun u hu => r_load uT73 ag73 rfl (cell_ext hu hc107)) ?_
  refine aM 10 rfl (v := vb) hs28 ?_
  refine ra 11 rfl (fun _ => r_fieldAddr uT128 rfl ty73 rfl) ?_
  have hc108 := hb67.cell (j := 3) (u := (.int .u64 (v1 : Int))) rfl
  refine aR 12 rfl (fun u hu => r_load uT73 ag73 rfl (cell_ext hu hc108)) ?_
  refine RA.all [6] kR rfl ?_
  replace hB := ((hB.tr (Sm.ext (Ext.trans he63 he66))).apn hx71 nb_hx71).tr (Sm.ext he104)
  replace hA := ((hA.tr (Sm.ext (Ext.trans he63 he66))).apn hx71 nb_hx71).tr (Sm.ext he104)
  refine cS ent115 (n_combine hB (digs_lm _) oS hA (digs_lm _) oS oM oM) rfl rfl ?_ RS.nil
  rintro vr111 w109 ⟨hr112, he110⟩
  refine rm he110 ?_
  try rw [val_digs] at hr112
  try rw [val_digs] at hr112
  replace hr112 := hr112.fr hE
  replace hE := hE.nx he110
  refine RA.all [13] kR rfl ?_
  replace hA := hA.tr (Sm.ext he110)
  replace hB := hB.tr (Sm.ext he110)
  refine cS ent115 (n_combine hA (digs_lm _) oS hB (digs_lm _) oS oM oM) rfl rfl ?_ RS.nil
  rintro vr115 w113 ⟨hr116, he114⟩
  refine rm he114 ?_
  try rw [val_digs] at hr116
  try rw [val_digs] at hr116
  replace hr116 := hr116.fr hE
  replace hE := hE.nx he114
  refine aA 14 rfl (v := vr111) rfl ?_
  refine aA 15 rfl (v := vr115) rfl ?_
  refine RA.done kR ?_
  replace hr112 := hr112.tr (Sm.ext he114)
  have hm117 := Ext.trans he104 (Ext.trans he110 he114)
  replace hx := ((hx.tr (Sm.ext (Ext.trans he63 he66))).tr (Sm.exc hx71 (fun _ _ _ _ hd => absurd hd.2 (Nat.not_lt_of_le ge_b65)))).tr (Sm.ext hm117)
  replace hy := ((hy.tr (Sm.ext (Ext.trans he63 he66))).tr (Sm.exc hx71 (fun _ _ _ _ hd => absurd hd.2 (Nat.not_lt_of_le ge_b65)))).tr (Sm.ext hm117)
  replace hr3 := ((hr3.tr (Sm.ext (Ext.trans he63 he66))).tr (Sm.exc hx71 (fun _ _ _ _ hd => absurd hd.2 (Nat.not_lt_of_le ge_b65)))).tr (Sm.ext hm117)
  replace hr7 := ((hr7.tr (Sm.ext (Ext.trans he63 he66))).tr (Sm.exc hx71 (fun _ _ _ _ hd => absurd hd.2 (Nat.not_lt_of_le ge_b65)))).tr (Sm.ext hm117)
  refine ⟨((b * v0 - a * u0), (a * u1 - b * v1), vr111, vr115), ⟨?_, ?_, ?_, ?_, ?_, ?_, ?_, ?_, ?_, ?_, ?_, ?_, ?_⟩, ?_⟩
  · exact (by repeat (first | exact G26 | refine Off.st ?_ dC _ | refine Off.via G19 dC ?_ | refine Off.eq hF10 ?_))
  · first | rfl | exact int_eq oM | exact bool_eq (by simp)
  · first | rfl | exact int_eq oM | exact bool_eq (by simp)
  · exact Nat.le_of_lt hf.2.2.2.1
  · exact hf.2.2.1.trans hg
  · exact Nat.le_trans (len_mono (Nat.le_trans hf.2.2.2.2 hba)) hla
  · exact hr112.mono (fun _ _ _ => trivial)
  · exact hr116.mono (fun _ _ _ => trivial)
  · exact hx
  · exact hy
  · exact hE
  · exact hr3
  · exact hr7
  (try dsimp only)
  first | (rw [show modZ a b = a % b from if_neg hb0]; exact Nat.mod_lt _ oM) | exact Nat.lt_of_lt_of_le hf.2.2.2.1 hf.2.2.2.2
 have hb0 : b = 0 := len_zero.1 (by unfold len; omega)
 refine wexit ?_
 refine wsr (mV hs27 ?_)
 refine cL ent92 (n_trim hA (digs_lm _) oS) rfl ?_
 rintro vr120 w118 ⟨hr121, he119⟩
 try rw [val_digs] at hr121
 replace hr121 := hr121.fr hE
 replace hE := hE.nx he119
 refine aS (v := vr120) rfl (RL.nil ?_)
 refine wret ?_
 refine ⟨[vr120], ⟨rfl, trivial⟩, ?_⟩
 rw [hb0, Nat.gcd_zero_right] at hg
 rw [← hg]
 exact ⟨hr121, hE⟩
end Go.Proofs.YtelbjmhhbeijkaaGreat
