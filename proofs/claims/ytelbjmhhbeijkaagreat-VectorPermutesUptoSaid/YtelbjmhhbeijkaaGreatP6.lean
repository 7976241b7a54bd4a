/- VectorPermutes, second form: for arguments of bulk at most 1048576 the law returns true and the arguments read as before; no other condition. Part 6 of 8: Va Vb Vc Vd Ve Vf Xa Vgs Xb Xc Nm Ew Xd Xe Xf Vgt Ta Tb Ya. -/
import Derived.Test.YtelbjmhhbeijkaaGreatP5
set_option linter.unusedVariables false
set_option linter.unusedSimpArgs false
namespace Go.Proofs.YtelbjmhhbeijkaaGreat
open Go.Vg Go.RowKit _root_.Go.Proofs.Tryz
set_option linter.unusedVariables false
open Go.Vm
set_option maxHeartbeats 1000000 in
theorem v_byIndex {w : World} {x y : EC} :
    Calls Tryz.prog 30 #[(.agg #[(iv x.1), (.bool (x.2.1)), (sv x.2.2.1), (sv x.2.2.2)]), (.agg #[(iv y.1), (.bool (y.2.1)), (sv y.2.2.1), (sv y.2.2.2)])] w fun e w' => ∃ v, e = .returned v ∧ v = .int .i64 (cmpI x.1 y.1) ∧ Ext w w' := by
 have hE : Below w.heap.size w w := Below.refl _ _
 refine calls_of (n := 10) (rs := [.tmp 4]) func30 rfl rfl rfl bL ?_
 refine wset fun F0 hF0 => ?_
 refine wsr ?_
 refine rU (h_box (vv := (.agg #[(iv x.1), (.bool (x.2.1)), (sv x.2.2.1), (sv x.2.2.2)])) (cs := [(iv x.1), (.bool (x.2.1)), (sv x.2.2.1), (sv x.2.2.2)]) (hF0 0) rfl) ?_
 rintro _ w1 ⟨b2, rfl, hs5, hb4, he3⟩
 have ge_b2 := hE.ge hs5
 replace hE := hE.nx he3
 refine rU (h_box (vv := (.agg #[(iv y.1), (.bool (y.2.1)), (sv y.2.2.1), (sv y.2.2.2)])) (cs := [(iv y.1), (.bool (y.2.1)), (sv y.2.2.1), (sv y.2.2.2)]) (hF0 1) rfl) ?_
 rintro _ w6 ⟨b7, rfl, hs10, hb9, he8⟩
 have lt_b2_b7 := Nat.lt_of_lt_of_eq hb4.lt hs10.symm
 have ge_b7 := hE.ge hs10
 replace hE := hE.nx he8
 refine aS (v := (iv 0)) rfl (RL.nil (wsr (rV (r_fieldAddr uT55 rfl ty3 rfl) ?_)))
 replace hb4 := hb4.ext he8
 have hc11 := hb4.cell (j := 0) (u := (iv x.1)) rfl
 refine rV (r_load uT3 ag3 rfl hc11) (rV (r_fieldAddr uT55 rfl ty3 rfl) ?_)
 have hc12 := hb9.cell (j := 0) (u := (iv y.1)) rfl
 refine rV (r_load uT3 ag3 rfl hc12) ?_
 refine cL ent52 (cmp_int _) rfl ?_
 rintro _ _ ⟨rfl, rfl⟩
 refine aS (v := (iv (cmpI x.1 y.1))) rfl (RL.nil ?_)
 refine wret ?_
 refine ⟨[(iv (cmpI x.1 y.1))], ⟨rfl, trivial⟩, ?_⟩
 exact ⟨rfl, hE⟩
theorem byidx_ok {b : Nat} {w0 : World} : CmpOk Tryz.prog 30 [] encE (fun x : EC => x.1) (fun _ => True) b w0 := fun _ _ _ _ _ _ => v_byIndex
theorem asc_no {es : List En} {k : Nat} (h1 : 1 ≤ k) (hk : k < es.length) (h : (es.getD k default).1 ≤ (es.getD (k - 1) default).1) : ¬ Asc es := fun ha => by
  have h2 := List.pairwise_iff_getElem.1 ha (k - 1) k oM hk oM
  rw [List.getD_eq_getElem?_getD, List.getD_eq_getElem?_getD, List.getElem?_eq_getElem hk, List.getElem?_eq_getElem oM] at h
  exact absurd h (Int.not_le.2 h2)
set_option maxHeartbeats 1000000 in
theorem v_ascending {w : World} {L : Nat} {Des : Nat → TypeId → Prop} {ves : Value} {es : List Ent'} (hes0 : Es L Des w ves es) :
    Calls Tryz.prog 65 #[ves] w fun e w' => ∃ v, e = .returned v ∧ (∃ r : Bool, v = .bool r ∧ (r = true ↔ Asc es)) ∧ Ext w w' := by
 have hE : Below w.heap.size w w := Below.refl _ _
 have hes := hes0.old
 clear hes0
 refine calls_of (n := 22) (rs := [.tmp 2]) func65 rfl rfl rfl bL ?_
 refine wset fun F0 hF0 => ?_
 refine wsr (aS (v := (.bool false)) rfl (RL.nil (wseq (wsr (aS (v := (iv 1)) rfl (RL.nil ?_))))))
 refine wblock ?_
 refine wset fun F1 hF2 => ?_
 refine wloop (σ := Nat) (fun (k : Nat) fl wl => Off (rg 2 20 []) F1 fl ∧ fl 3 = (iv k) ∧ (1 ≤ k) ∧ (k ≤ max 1 es.length) ∧ (Asc (es.take k)) ∧ (Es L (fun b T => Des b T ∧ b < w.heap.size) wl ves es) ∧ (Below w.heap.size w wl)) (fun (k : Nat) => es.length - k) (1) ?_ ?_
 ·exact ⟨Off.refl _ _, (hF2 3).trans (rfl), Nat.le_refl _, Nat.le_max_left _ _, asc_one es, hes, hE⟩
 clear hes hE
 rintro k f3 w4 ⟨hoff5, hs6, hk1, hk2, hA, hes, hE⟩
 refine wseq (wsr (mV hs6 (mV (v := ves) ((hoff5 0 rfl).trans ((hF2 0).trans (hF0 0))) ?_)))
 obtain ⟨A7, c8, hv9, hc10, hc11⟩ := hes.len
 refine rV (r_len uT22 hv9) (rV (r_lss (k := .i64) (a := (k : Int)) (b := ((es.length : Nat) : Int)) rfl rfl) (RL.nil ?_))
 refine wcD (p := (k : Int) < ((es.length : Nat) : Int)) rfl (fun hb12 hb12p => ?_) (fun hb12 hb12p => ?_)
 ·refine wskip ?_
  refine wseq ?_
  refine wblock ?_
  refine wseq ?_
  refine wdraw mixed fun w13 he14 => ?_
  replace hE := hE.nx he14
  refine ra 0 rfl (fun _ => r_move_as (v := ves) ((hoff5 0 rfl).trans ((hF2 0).trans (hF0 0)))) ?_
  refine ra 1 rfl (fun _ => r_move_as (v := (iv k)) hs6) ?_
  refine ra 2 rfl (fun _ => r_sub (k := .i64) (a := (k : Int)) (b := 1) (c := ((k - 1 : Nat) : Int)) rfl rfl ((wi64 oM).trans oM)) ?_
  replace hes := hes.tr (Sm.ext he14)
  obtain ⟨b15, o16, c17, s22, A20, B21, x23, d24, hv18, hc19, hx25, lm26, ln27, hd28, lm29, ln30, eq31⟩ := hes.ix (i := ((k - 1 : Nat) : Int)) (k - 1) oM oM
  refine ra 3 rfl (fun _ => r_indexAddr (i := ((k - 1 : Nat) : Int)) uT22 ty55 hv18 rfl oM oM) ?_
  refine ra 4 rfl (fun _ => r_fieldAddr uT55 rfl ty3 rfl) ?_
  refine RA.rd 5 rfl kR rfl rfl rfl dC (Ext.refl _) (fun u hu => r_load (v := (iv ((es.getD (k - 1) default).1))) uT3 ag3 rfl (cell_ext hu (hc19 0 _ rfl))) ?_
  refine ra 6 rfl (fun _ => r_move_as (v := ves) ((hoff5 0 rfl).trans ((hF2 0).trans (hF0 0)))) ?_
  refine ra 7 rfl (fun _ => r_move_as (v := (iv k)) hs6) ?_
  obtain ⟨b32, o33, c34, s39, A37, B38, x40, d41, hv35, hc36, hx42, lm43, ln44, hd45, lm46, ln47, eq48⟩ := hes.ix (i := (k : Int)) (k) oM oM
  refine ra 8 rfl (fun _ => r_indexAddr (i := (k : Int)) uT22 ty55 hv35 rfl oM oM) ?_
  refine ra 9 rfl (fun _ => r_fieldAddr uT55 rfl ty3 rfl) ?_
  refine RA.rd 10 rfl kR rfl rfl rfl dC (Ext.refl _) (fun u hu => r_load (v := (iv ((es.getD (k) default).1))) uT3 ag3 rfl (cell_ext hu (hc36 0 _ rfl))) ?_
  refine ra 11 rfl (fun _ => r_geq (k := .i64) (a := (es.getD (k - 1) default).1) (b := (es.getD (k) default).1) rfl rfl) ?_
  refine RA.done kR ?_
  refine wcD (p := ((es.getD (k) default).1) ≤ ((es.getD (k - 1) default).1)) rfl (fun hb49 hb49p => ?_) (fun hb49 hb49p => ?_)
  ·refine wsr ?_
   refine aS (v := (.bool false)) rfl (RL.nil ?_)
   refine wret ?_
   refine ⟨[(.bool false)], ⟨rfl, trivial⟩, ?_⟩
   exact ⟨⟨_, rfl, (fun h => by cases h), fun h => absurd h (asc_no hk1 oM oM)⟩, hE⟩
  refine wskip ?_
  refine wregion (mV hs6 (rV (r_add (k := .i64) (a := (k : Int)) (b := 1) (c := (k : Int) + 1) rfl rfl (wi64 oM)) (aS (v := (iv ((k : Int) + 1))) rfl (RL.nil ?_))))
  refine ⟨(k + 1), ⟨?_, ?_, ?_, ?_, ?_, ?_, ?_⟩, ?_⟩
  · exact (by repeat (first | exact hoff5 | refine Off.st ?_ dC _))
  · first | rfl | exact int_eq oM | exact bool_eq (by simp)
  · omega
  · omega
  · exact asc_snoc hk1 oM hA oM
  · exact hes
  · exact hE
  (try dsimp only)
  omega
 refine wexit ?_
 refine wsr (aS (v := (.bool true)) rfl (RL.nil ?_))
 refine wret ?_
 refine ⟨[(.bool true)], ⟨rfl, trivial⟩, ?_⟩
 rw [List.take_of_length_le oM] at hA
 exact ⟨⟨_, rfl, (fun _ => hA), fun _ => rfl⟩, hE⟩
end Go.Proofs.YtelbjmhhbeijkaaGreat
namespace Go.Proofs.YtelbjmhhbeijkaaGreat
open Go.Vg Go.RowKit _root_.Go.Proofs.Tryz
set_option linter.unusedVariables false
open Go.Vm
def bfun (k B L : Nat) : Nat → Nat := fun j => if j < k then B else L
theorem bfun_lt {k B L j : Nat} (h : j < k) : bfun k B L j = B := if_pos h
theorem bfun_ge {k B L j : Nat} (h : ¬ j < k) : bfun k B L j = L := if_neg h
theorem bfun_up {k B L B' : Nat} (hB : B ≤ B') (hL : L ≤ B) : ∀ j, bfun k B L j ≤ bfun (k + 1) B' L j := fun j => by
  unfold bfun; split <;> split <;> omega
theorem bfun_le {k B L j : Nat} (hL : L ≤ B) : bfun k B L j ≤ B := by unfold bfun; split <;> omega
theorem room_next {n k t B M : Nat} (hk : k < n) (h : B + (n - k) * t ≤ M) : B + t + (n - (k + 1)) * t ≤ M := by
  have e : n - k = (n - (k + 1)) + 1 := by omega
  rw [e, Nat.succ_mul] at h
  omega
set_option maxHeartbeats 4000000 in
theorem v_arrange {w : World} {L : Nat} {Des : Nat → TypeId → Prop} {ves : Value} {es : List Ent'} (hes0 : Es L Des w ves es) {M : Nat} (hfit : (Asc es ∧ L ≤ M) ∨ (es.length + 1) * (L + 3) ≤ M) (hM : M ≤ 17179869184) :
    Calls Tryz.prog 44 #[ves] w fun e w' => ∃ v, e = .returned v ∧ (∃ es', Es M (fun b T => (Des b T ∧ b < w.heap.size) ∨ (w.heap.size ≤ b ∧ (T = 55 ∨ T = 89))) w' v es' ∧ Asc es' ∧ (∀ i, get es' i = get es i) ∧ es'.length ≤ es.length) ∧ Ext w w' := by
 have hE : Below w.heap.size w w := Below.refl _ _
 have hes := hes0.old
 clear hes0
 refine calls_of (n := 61) (rs := [.tmp 2]) func44 rfl rfl rfl bL ?_
 refine wset fun F0 hF0 => ?_
 refine wsr (aS (v := (.slice none (0) (0))) rfl (RL.nil (wseq (wsr (mV (v := ves) (hF0 0) ?_)))))
 refine cL ent65 (v_ascending hes) rfl ?_
 rintro _ w1 ⟨⟨r, rfl, hasc⟩, he2⟩
 replace hE := hE.nx he2
 refine RL.nil ?_
 refine wcond (b := r) rfl (fun hb3 => ?_) (fun hb3 => ?_)
 ·have hb3p := hb3
  have hr : r = true := hb3
  refine wsr (mV (v := ves) (hF0 0) (aS (v := ves) rfl (RL.nil ?_)))
  refine wret ?_
  refine ⟨[ves], ⟨rfl, trivial⟩, ?_⟩
  replace hes := hes.tr (Sm.ext he2)
  refine ⟨⟨es, (hes.mono (fun _ _ h => .inl h)).wide (by have := Nat.le_mul_of_pos_left (L + 3) (show 0 < es.length + 1 by omega); rcases hfit with h | h <;> omega), hasc.1 hr, fun _ => rfl, Nat.le_refl _⟩, hE⟩
 have hb3p := hb3
 have hna : ¬ Asc es := fun h => by rw [hasc.2 h] at hb3; cases hb3
 have hLF : (es.length + 1) * (L + 3) ≤ M := hfit.resolve_left (fun h => hna h.1)
 have hfit2 : es.length + 1 ≤ (es.length + 1) * (L + 3) := Nat.le_mul_of_pos_right _ oM
 have hfit3 : L + 3 ≤ (es.length + 1) * (L + 3) := Nat.le_mul_of_pos_left _ oM
 refine wskip ?_
 refine wsr (mV (v := ves) (hF0 0) ?_)
 obtain ⟨A4, c5, hv6, hc7, hc8⟩ := hes.len
 refine rV (r_len uT22 hv6) ?_
 have hn14 : (((es.length : Nat) : Int) : Int) = ((es.length : Nat) : Int) := by omega
 refine rU (h_make (n := es.length) (c := es.length) uT22 ty55 rfl (int_eq hn14) (int_eq hn14) (Nat.le_refl _) oM oM) ?_
 rintro _ w9 ⟨b10, rfl, hs13, hb12, he11⟩
 have ge_b10 := hE.ge hs13
 replace hE := hE.nx he11
 replace hb12 := Av.made (L := (fun _ => L)) (D := (fun b T => (Des b T ∧ b < w.heap.size) ∨ (w.heap.size ≤ b ∧ (T = 55 ∨ T = 89)))) hb12
 refine aS (v := (.slice (some ⟨b10, 0, none⟩) (es.length) (es.length))) rfl (RL.nil (wsr (mV (v := (.slice (some ⟨b10, 0, none⟩) (es.length) (es.length))) rfl (mV (v := ves) (hF0 0) ?_))))
 replace hes := hes.tr (Sm.ext (Ext.trans he2 he11))
 refine rU (h_copyE uT22 ty55 rfl rfl hb12 hes oM (fun _ _ h => .inl h)) ?_
 rintro _ w15 ⟨rfl, ha16, hx17⟩
 replace hE := hE.nb hx17 ge_b10
 have nb_hx17 := hb12.nb
 replace hb12 := ha16
 refine RL.nil (wsr (mV (v := (.slice (some ⟨b10, 0, none⟩) (es.length) (es.length))) rfl ?_))
 obtain ⟨xs0, post0, ⟨hae, hpp⟩, hfi⟩ := id hb12
 refine RL.call rfl rfl dC (r_call (vl := [(.slice (some ⟨b10, 0, none⟩) (es.length) (es.length)), (.func (.func 30) #[] #[])]) ent66 rfl) (sortStable_ent (key := fun x : EC => x.1) (ok := fun _ => True) (cl := []) ent30 byidx_ok (Exc.of_ext (Ext.refl _)) hae oM (fun _ _ => trivial)) ?_
 rintro _ w18 ⟨rfl, ⟨l0, hl0, hsr, hst0⟩, hx19⟩
 replace hE := hE.nb hx19 ge_b10
 have nb_hx19 := hb12.nb
 obtain ⟨S0, hS0, hprm, hwk⟩ := sort_lift hfi hae hpp hx19 hl0 hsr hst0
 replace hb12 := hS0
 refine RL.nil (wsr (aS (v := (iv 0)) rfl (RL.nil (wseq (wseq ?_)))))
 have hS0l : S0.length = es.length := hprm.length_eq.symm
 refine wregion (mV (v := (.slice (some ⟨b10, 0, none⟩) (es.length) (es.length))) rfl (rV (r_len uT22 rfl) (mV (v := (iv 0)) rfl (RL.nil ?_))))
 refine wblock ?_
 refine wset fun F20 hF21 => ?_
 refine wloop (σ := Nat × Nat × Nat × List Ent') (fun (s : Nat × Nat × Nat × List Ent') fl wl => match s with | (k, m, B, fs) => Off (4 :: (6 :: (rg 20 38 []))) F20 fl ∧ fl 20 = (iv k) ∧ fl 4 = (iv m) ∧ (k ≤ es.length) ∧ (Cp S0 fs k m) ∧ (L ≤ B) ∧ (B + (es.length - k) * (L + 3) ≤ (es.length + 1) * (L + 3)) ∧ (Av (bfun k B L) (fun b T => (Des b T ∧ b < w.heap.size) ∨ (w.heap.size ≤ b ∧ (T = 55 ∨ T = 89))) wl b10 55 fs es.length) ∧ (Es L (fun b T => Des b T ∧ b < w.heap.size) wl ves es) ∧ (Below w.heap.size w wl)) (fun (s : Nat × Nat × Nat × List Ent') => match s with | (k, m, B, fs) => es.length - k) (0, 0, L, S0) ?_ ?_
 ·replace hes := (hes.tr (Sm.exc hx17 (fun _ _ _ _ hd => absurd hd.2 (Nat.not_lt_of_le ge_b10)))).tr (Sm.exc hx19 (fun _ _ _ _ hd => absurd hd.2 (Nat.not_lt_of_le ge_b10)))
  exact ⟨Off.refl _ _, (hF21 20).trans (rfl), (hF21 4).trans (rfl), Nat.zero_le _, Cp.start S0, Nat.le_refl _, (by rw [Nat.sub_zero, Nat.add_mul]; omega), (hb12.wide (fun j _ => Nat.le_of_eq (bfun_ge oM).symm)), hes, hE⟩
 clear hes hE hb12
 rintro ⟨k, m, B, fs⟩ f22 w23 ⟨hoff24, hs25, hs26, hk, hC, hBL, hBM, hb12, hes, hE⟩
 refine wsr (rV (r_lss (k := .i64) (a := (k : Int)) (b := ((es.length : Nat) : Int)) hs25 ((hoff24 19 rfl).trans (hF21 19))) (RL.nil (wseq ?_)))
 refine wcD (p := (k : Int) < ((es.length : Nat) : Int)) rfl (fun hb27 hb27p => ?_) (fun hb27 hb27p => ?_)
 ·refine wskip ?_
  refine wseq ?_
  refine wblock ?_
  refine wseq ?_
  have hS0l : S0.length = es.length := hprm.length_eq.symm
  have hfl := hC.len
  have hkm := hC.km
  refine wregion (rV (r_indexAddr (i := (k : Int)) uT22 ty55 ((hoff24 18 rfl).trans (hF21 18)) hs25 oM oM) ?_)
  obtain ⟨s32, A30, B31, x33, d34, hc28, hc29, hx35, lm36, ln37, hd38, lm39, ln40, eq41⟩ := hb12.ix (i := (k : Int)) (k) oM oM
  rw [bfun_ge oM] at ln37 ln40
  refine rV (r_loada (cs := [(iv ((fs.getD (k) default).1)), (.bool s32), (sv A30), (sv B31)]) uT55 ag55 ty55 rfl hc28) ?_
  refine rU (h_alloc (cs := [(iv 0), (.bool false), (.slice none 0 0), (.slice none 0 0)]) ty55 rfl) ?_
  rintro _ w42 ⟨b43, rfl, hs46, hb45, he44⟩
  have lt_b10_b43 := Nat.lt_of_lt_of_eq hb12.lt hs46.symm
  have ge_b43 := hE.ge hs46
  replace hE := hE.nx he44
  refine RL.runs rfl rfl (h_store (vv := (.agg #[(iv ((fs.getD (k) default).1)), (.bool s32), (sv A30), (sv B31)])) (cs := [(iv ((fs.getD (k) default).1)), (.bool s32), (sv A30), (sv B31)]) (o := 0) ty55 rfl rfl rfl rfl (one_cons rfl (one_cons rfl (one_cons hx35.one (one_cons hd38.one one_nil)))) hb45 bL) ?_
  rintro w47 ⟨hn48, hx49, hz50⟩
  replace hE := hE.nb hx49 ge_b43
  have nb_hx49 := (Nb.of hb45 (nu_cons rfl (nu_cons rfl (nu_cons rfl (nu_cons rfl nu_nil)))))
  replace hb45 : Bk w47 b43 55 [(iv ((fs.getD (k) default).1)), (.bool s32), (sv A30), (sv B31)] := hn48
  refine RL.nil (wseq (wseq ?_))
  refine wdraw mixed fun w51 he52 => ?_
  replace hE := hE.nx he52
  refine ra 0 rfl (fun _ => r_move_as (v := (iv m)) hs26) ?_
  refine ra 1 rfl (fun _ => r_gtr (k := .i64) (a := (m : Int)) (b := 0) rfl rfl) ?_
  refine ra 2 rfl (fun _ => r_move_as (v := (bd (0 < (m : Int)))) rfl) ?_
  rcases bD (0 < (m : Int)) with ⟨hb53, hb53p⟩ | ⟨hb53, hb53p⟩
  ·have hm0 : 0 < m := by omega
   refine RA.gtake 3 rfl kR rfl rfl (bool_eq hb53) rfl dC (fun _ => r_move_as (v := (.slice (some ⟨b10, 0, none⟩) (es.length) (es.length))) ((hoff24 3 rfl).trans (hF21 3))) ?_
   refine RA.gtake 4 rfl kR rfl rfl (bool_eq hb53) rfl dC (fun _ => r_move_as (v := (iv m)) hs26) ?_
   refine RA.gtake 5 rfl kR rfl rfl (bool_eq hb53) rfl dC (fun _ => r_sub (k := .i64) (a := (m : Int)) (b := 1) (c := ((m - 1 : Nat) : Int)) rfl rfl ((wi64 oM).trans oM)) ?_
   refine RA.gtake 6 rfl kR rfl rfl (bool_eq hb53) rfl dC (fun _ => r_indexAddr (i := ((m - 1 : Nat) : Int)) uT22 ty55 rfl rfl oM oM) ?_
   refine RA.gtake 7 rfl kR rfl rfl (bool_eq hb53) rfl dC (fun _ => r_fieldAddr uT55 rfl ty3 rfl) ?_
   replace hb12 := ((hb12.ext he44).apn hx49 (Nat.ne_of_lt lt_b10_b43) nb_hx49).ext he52
   obtain ⟨s58, A56, B57, x59, d60, hc54, hc55, hx61, lm62, ln63, hd64, lm65, ln66, eq67⟩ := hb12.ix (i := ((m - 1 : Nat) : Int)) (m - 1) oM oM
   rw [bfun_lt oM] at ln63 ln66
   refine RA.grd 8 rfl kR rfl rfl rfl (bool_eq hb53) rfl dC (Ext.refl _) (fun u hu => r_load (v := (iv ((fs.getD (m - 1) default).1))) uT3 ag3 rfl (cell_ext hu (hc54 0 _ rfl))) ?_
   refine RA.gtake 9 rfl kR rfl rfl (bool_eq hb53) rfl dC (fun _ => r_fieldAddr uT55 rfl ty3 rfl) ?_
   replace hb45 := hb45.ext he52
   have hc68 := hb45.cell (j := 0) (u := (iv ((fs.getD (k) default).1))) rfl
   refine RA.grd 10 rfl kR rfl rfl rfl (bool_eq hb53) rfl dC (Ext.refl _) (fun u hu => r_load uT3 ag3 rfl (cell_ext hu hc68)) ?_
   refine RA.gtake 11 rfl kR rfl rfl (bool_eq hb53) rfl dC (fun _ => r_eql (k := .i64) (a := (fs.getD (m - 1) default).1) (b := (fs.getD (k) default).1) rfl rfl) ?_
   refine ra 12 rfl (fun _ => r_pick_t (v := (bd (((fs.getD (m - 1) default).1) = ((fs.getD (k) default).1)))) (bool_eq hb53) rfl) ?_
   refine RA.done kR ?_
   refine wcD (p := ((fs.getD (m - 1) default).1) = ((fs.getD (k) default).1)) rfl (fun hb69 hb69p => ?_) (fun hb69 hb69p => ?_)
   ·have heq := hb69p
    refine wseq ?_
    refine wdraw mixed fun w70 he71 => ?_
    replace hE := hE.nx he71
    refine ra 0 rfl (fun _ => r_move_as (v := (.slice (some ⟨b10, 0, none⟩) (es.length) (es.length))) ((hoff24 3 rfl).trans (hF21 3))) ?_
    refine ra 1 rfl (fun _ => r_move_as (v := (iv m)) hs26) ?_
    refine ra 2 rfl (fun _ => r_sub (k := .i64) (a := (m : Int)) (b := 1) (c := ((m - 1 : Nat) : Int)) rfl rfl ((wi64 oM).trans oM)) ?_
    refine ra 3 rfl (fun _ => r_move_as (v := (.slice (some ⟨b10, 0, none⟩) (es.length) (es.length))) ((hoff24 3 rfl).trans (hF21 3))) ?_
    refine ra 4 rfl (fun _ => r_move_as (v := (iv m)) hs26) ?_
    refine ra 5 rfl (fun _ => r_sub (k := .i64) (a := (m : Int)) (b := 1) (c := ((m - 1 : Nat) : Int)) rfl rfl ((wi64 oM).trans oM)) ?_
    refine ra 6 rfl (fun _ => r_indexAddr (i := ((m - 1 : Nat) : Int)) uT22 ty55 rfl rfl oM oM) ?_
    refine ra 7 rfl (fun _ => r_fieldAddr uT55 rfl ty44 rfl) ?_
    replace hb12 := hb12.ext he71
    obtain ⟨s76, A74, B75, x77, d78, hc72, hc73, hx79, lm80, ln81, hd82, lm83, ln84, eq85⟩ := hb12.ix (i := ((m - 1 : Nat) : Int)) (m - 1) oM oM
    rw [bfun_lt oM] at ln81 ln84
    refine RA.rd 8 rfl kR rfl rfl rfl dC (Ext.refl _) (fun u hu => r_loada (cs := [(.bool s76), (sv A74), (sv B75)]) uT44 ag44 ty44 rfl (fun j v hj => cell_ext hu (hc73 j v hj))) ?_
    refine ra 9 rfl (fun _ => r_fieldAddr uT55 rfl ty44 rfl) ?_
    replace hb45 := hb45.ext he71
    have hc86 := hb45.cells (o := 1) (cs := [(.bool s32), (sv A30), (sv B31)]) rfl
    refine RA.rd 10 rfl kR rfl rfl rfl dC (Ext.refl _) (fun u hu => r_loada (o := 1) (cs := [(.bool s32), (sv A30), (sv B31)]) uT44 ag44 ty44 rfl (fun j v hj => cell_ext hu (hc86 j v hj))) ?_
    refine RA.all [11] kR rfl ?_
    replace hx35 := ((hx35.tr (Sm.ext he44)).apn hx49 nb_hx49).tr (Sm.ext (Ext.trans he52 he71))
    replace hd38 := ((hd38.tr (Sm.ext he44)).apn hx49 nb_hx49).tr (Sm.ext (Ext.trans he52 he71))
    refine RS.call rfl rfl rfl dC (r_call (vl := [(.agg #[(.bool s76), (sv A74), (sv B75)]), (.agg #[(.bool s32), (sv A30), (sv B31)])]) ent46 rfl) (q_add hx79 lm80 oS hd82 lm83 oS (show ratOf s76 (val x77) (val d78) = (fs.getD (m - 1) default).2 from eq85) hx35 lm36 oS hd38 lm39 oS (show ratOf s32 (val x33) (val d34) = (fs.getD (k) default).2 from eq41)) ?_ RS.nil
    rintro _ w87 ⟨⟨vn89, vd91, rfl, hn90, hd92, hl93, hl94⟩, he88⟩
    refine rm he88 ?_
    have hlv95 := den_one (((fs.getD (m - 1) default).2) + ((fs.getD (k) default).2))
    replace hn90 := hn90.fr hE
    replace hd92 := hd92.fr hE
    replace hE := hE.nx he88
    refine ra 12 rfl (fun _ => r_indexAddr (i := ((m - 1 : Nat) : Int)) uT22 ty55 rfl rfl oM oM) ?_
    refine ra 13 rfl (fun _ => r_fieldAddr uT55 rfl ty44 rfl) ?_
    refine RA.all [14] kR rfl ?_
    replace hb12 := hb12.ext he88
    replace hb12 := hb12.wide (L' := bfun (k + 1) (B + (L + 3)) L) (fun j _ => bfun_up oM hBL j)
    refine RS.runs rfl rfl rfl (h_setVr (i := ((m - 1 : Nat) : Int)) (q := (((fs.getD (m - 1) default).2) + ((fs.getD (k) default).2))) ty44 rfl rfl hb12 (m - 1) ((Rz.of (L := B + (L + 3)) (hn90.mono (fun b T h => by first | exact h | exact .inr ⟨h.1, .inr h.2⟩ | exact .inl h)) (digs_lm _) oM (hd92.mono (fun b T h => by first | exact h | exact .inr ⟨h.1, .inr h.2⟩ | exact .inl h)) (digs_lm _) oM (ratOf_canon _)).wide (Nat.le_of_eq (bfun_lt oM).symm)) oM oM) ?_ RS.nil
    rintro w96 ⟨ha97, hx98⟩
    refine ⟨.inr (.inl kR), ?_⟩
    replace hE := hE.nb hx98 ge_b10
    have nb_hx98 := hb12.nb
    replace hb12 := ha97
    refine RA.done kR ?_
    refine wexit ?_
    refine wregion (rV (r_add (k := .i64) (a := (k : Int)) (b := 1) (c := (k : Int) + 1) hs25 rfl (wi64 oM)) (mV (v := (iv ((k : Int) + 1))) rfl (RL.nil ?_)))
    have hm99 := Ext.trans he52 (Ext.trans he71 he88)
    replace hes := (((hes.tr (Sm.ext he44)).tr (Sm.exc hx49 (fun _ _ _ _ hd => absurd hd.2 (Nat.not_lt_of_le ge_b43)))).tr (Sm.ext hm99)).tr (Sm.exc hx98 (fun _ _ _ _ hd => absurd hd.2 (Nat.not_lt_of_le ge_b10)))
    refine ⟨(k + 1, m, B + (L + 3), (fs.set (m - 1) ((fs.getD (m - 1) default).1, (((fs.getD (m - 1) default).2) + ((fs.getD (k) default).2))))), ⟨?_, ?_, ?_, ?_, ?_, ?_, ?_, ?_, ?_, ?_⟩, ?_⟩
    · exact (by repeat (first | exact hoff24 | refine Off.st ?_ dC _))
    · first | rfl | exact int_eq oM | exact bool_eq (by simp)
    · refine (hs26).trans ?_
      first | rfl | exact int_eq oM | exact bool_eq (by simp)
    · omega
    · exact hC.add oM hwk hm0 heq
    · omega
    · exact room_next oM hBM
    · exact hb12
    · exact hes
    · exact hE
    (try dsimp only)
    omega
   have heq := hb69p
   refine wskip ?_
   refine wsr (mV (v := (.slice (some ⟨b10, 0, none⟩) (es.length) (es.length))) ((hoff24 3 rfl).trans (hF21 3)) (mV hs26 ?_))
   have hc100 := hb45.cells (o := 0) (cs := [(iv ((fs.getD (k) default).1)), (.bool s32), (sv A30), (sv B31)]) rfl
   refine rV (r_loada (o := 0) (cs := [(iv ((fs.getD (k) default).1)), (.bool s32), (sv A30), (sv B31)]) uT55 ag55 ty55 rfl hc100) (rV (r_indexAddr (i := (m : Int)) uT22 ty55 rfl rfl oM oM) ?_)
   replace hb12 := hb12.wide (L' := bfun (k + 1) (B + (L + 3)) L) (fun j _ => bfun_up oM hBL j)
   replace hx35 := ((hx35.tr (Sm.ext he44)).apn hx49 nb_hx49).tr (Sm.ext he52)
   replace hd38 := ((hd38.tr (Sm.ext he44)).apn hx49 nb_hx49).tr (Sm.ext he52)
   refine RL.runs rfl rfl (h_setV (i := (m : Int)) (q := (fs.getD (k) default).2) ty55 rfl rfl hb12 (m) ((Rz.of (L := B + (L + 3)) (hx35.mono (fun b T h => by first | exact h | exact .inr ⟨h.1, .inr h.2⟩ | exact .inl h)) lm36 oM (hd38.mono (fun b T h => by first | exact h | exact .inr ⟨h.1, .inr h.2⟩ | exact .inl h)) lm39 oM (show ratOf s32 (val x33) (val d34) = (fs.getD (k) default).2 from eq41)).wide (Nat.le_of_eq (bfun_lt oM).symm)) oM oM) ?_
   rintro w101 ⟨ha102, hx103⟩
   replace hE := hE.nb hx103 ge_b10
   have nb_hx103 := hb12.nb
   replace hb12 := ha102
   refine RL.nil (wregion (mV hs26 (rV (r_add (k := .i64) (a := (m : Int)) (b := 1) (c := ((m + 1 : Nat) : Int)) rfl rfl ((wi64 oM).trans oM)) (aS (v := (iv (m + 1 : Nat))) rfl (RL.nil (wregion (rV (r_add (k := .i64) (a := (k : Int)) (b := 1) (c := (k : Int) + 1) hs25 rfl (wi64 oM)) (mV (v := (iv ((k : Int) + 1))) rfl (RL.nil ?_)))))))))
   replace hes := (((hes.tr (Sm.ext he44)).tr (Sm.exc hx49 (fun _ _ _ _ hd => absurd hd.2 (Nat.not_lt_of_le ge_b43)))).tr (Sm.ext he52)).tr (Sm.exc hx103 (fun _ _ _ _ hd => absurd hd.2 (Nat.not_lt_of_le ge_b10)))
   refine ⟨(k + 1, m + 1, B + (L + 3), (fs.set (m) ((fs.getD (k) default).1, (fs.getD (k) default).2))), ⟨?_, ?_, ?_, ?_, ?_, ?_, ?_, ?_, ?_, ?_⟩, ?_⟩
   · exact (by repeat (first | exact hoff24 | refine Off.st ?_ dC _))
   · first | rfl | exact int_eq oM | exact bool_eq (by simp)
   · first | rfl | exact int_eq oM | exact bool_eq (by simp)
   · omega
   · exact hC.new oM hwk (by first | exact .inl hm0 | exact .inr heq)
   · omega
   · exact room_next oM hBM
   · exact hb12
   · exact hes
   · exact hE
   (try dsimp only)
   omega
  have hm0 : m = 0 := by omega
  refine RA.gno 3 rfl kR rfl rfl (.inl (bool_eq hb53)) rfl dC ?_
  refine RA.gno 4 rfl kR rfl rfl (.inl (bool_eq hb53)) rfl dC ?_
  refine RA.gno 5 rfl kR rfl rfl (.inl (bool_eq hb53)) rfl dC ?_
  refine RA.gno 6 rfl kR rfl rfl (.inl (bool_eq hb53)) rfl dC ?_
  refine RA.gno 7 rfl kR rfl rfl (.inl (bool_eq hb53)) rfl dC ?_
  refine RA.gno 8 rfl kR rfl rfl (.inl (bool_eq hb53)) rfl dC ?_
  refine RA.gno 9 rfl kR rfl rfl (.inl (bool_eq hb53)) rfl dC ?_
  refine RA.gno 10 rfl kR rfl rfl (.inl (bool_eq hb53)) rfl dC ?_
  refine RA.gno 11 rfl kR rfl rfl (.inl (bool_eq hb53)) rfl dC ?_
  refine ra 12 rfl (fun _ => r_pick_f (v := (.bool false)) (bool_eq hb53) rfl) ?_
  refine RA.done kR ?_
  refine wcond_f rfl ?_
  refine wskip ?_
  refine wsr (mV (v := (.slice (some ⟨b10, 0, none⟩) (es.length) (es.length))) ((hoff24 3 rfl).trans (hF21 3)) (mV hs26 ?_))
  replace hb45 := hb45.ext he52
  have hc104 := hb45.cells (o := 0) (cs := [(iv ((fs.getD (k) default).1)), (.bool s32), (sv A30), (sv B31)]) rfl
  refine rV (r_loada (o := 0) (cs := [(iv ((fs.getD (k) default).1)), (.bool s32), (sv A30), (sv B31)]) uT55 ag55 ty55 rfl hc104) (rV (r_indexAddr (i := (m : Int)) uT22 ty55 rfl rfl oM oM) ?_)
  replace hb12 := ((hb12.ext he44).apn hx49 (Nat.ne_of_lt lt_b10_b43) nb_hx49).ext he52
  replace hb12 := hb12.wide (L' := bfun (k + 1) (B + (L + 3)) L) (fun j _ => bfun_up oM hBL j)
  replace hx35 := ((hx35.tr (Sm.ext he44)).apn hx49 nb_hx49).tr (Sm.ext he52)
  replace hd38 := ((hd38.tr (Sm.ext he44)).apn hx49 nb_hx49).tr (Sm.ext he52)
  refine RL.runs rfl rfl (h_setV (i := (m : Int)) (q := (fs.getD (k) default).2) ty55 rfl rfl hb12 (m) ((Rz.of (L := B + (L + 3)) (hx35.mono (fun b T h => by first | exact h | exact .inr ⟨h.1, .inr h.2⟩ | exact .inl h)) lm36 oM (hd38.mono (fun b T h => by first | exact h | exact .inr ⟨h.1, .inr h.2⟩ | exact .inl h)) lm39 oM (show ratOf s32 (val x33) (val d34) = (fs.getD (k) default).2 from eq41)).wide (Nat.le_of_eq (bfun_lt oM).symm)) oM oM) ?_
  rintro w105 ⟨ha106, hx107⟩
  replace hE := hE.nb hx107 ge_b10
  have nb_hx107 := hb12.nb
  replace hb12 := ha106
  refine RL.nil (wregion (mV hs26 (rV (r_add (k := .i64) (a := (m : Int)) (b := 1) (c := ((m + 1 : Nat) : Int)) rfl rfl ((wi64 oM).trans oM)) (aS (v := (iv (m + 1 : Nat))) rfl (RL.nil (wregion (rV (r_add (k := .i64) (a := (k : Int)) (b := 1) (c := (k : Int) + 1) hs25 rfl (wi64 oM)) (mV (v := (iv ((k : Int) + 1))) rfl (RL.nil ?_)))))))))
  replace hes := (((hes.tr (Sm.ext he44)).tr (Sm.exc hx49 (fun _ _ _ _ hd => absurd hd.2 (Nat.not_lt_of_le ge_b43)))).tr (Sm.ext he52)).tr (Sm.exc hx107 (fun _ _ _ _ hd => absurd hd.2 (Nat.not_lt_of_le ge_b10)))
  refine ⟨(k + 1, m + 1, B + (L + 3), (fs.set (m) ((fs.getD (k) default).1, (fs.getD (k) default).2))), ⟨?_, ?_, ?_, ?_, ?_, ?_, ?_, ?_, ?_, ?_⟩, ?_⟩
  · exact (by repeat (first | exact hoff24 | refine Off.st ?_ dC _))
  · first | rfl | exact int_eq oM | exact bool_eq (by simp)
  · first | rfl | exact int_eq oM | exact bool_eq (by simp)
  · omega
  · exact hC.new oM hwk (by first | exact .inl hm0 | exact .inr heq)
  · omega
  · exact room_next oM hBM
  · exact hb12
  · exact hes
  · exact hE
  (try dsimp only)
  omega
 refine wexit ?_
 refine wseq ?_
 have hS0l : S0.length = es.length := hprm.length_eq.symm
 have hfl := hC.len
 have hkm := hC.km
 have hke : k = es.length := by omega
 rw [hke, Nat.sub_self, Nat.zero_mul, Nat.add_zero] at hBM
 refine wregion (mV (v := (.slice (some ⟨b10, 0, none⟩) (es.length) (es.length))) ((hoff24 3 rfl).trans (hF21 3)) (mV hs26 (rV (r_sh (h := (m : Int)) (kk := m) uT22 ty55 rfl rfl oM oM) (aS (v := (.slice (some ⟨b10, 0, none⟩) (m) (es.length))) rfl (RL.nil ?_)))))
 refine wret ?_
 refine ⟨[(.slice (some ⟨b10, 0, none⟩) (m) (es.length))], ⟨rfl, trivial⟩, ?_⟩
 have hrd := (hb12.rd (c := es.length) (L0 := M) (fun j _ => Nat.le_trans (bfun_le hBL) oM) (.inr ⟨ge_b10, .inl rfl⟩) (Nat.le_refl _) oM).take m (by rw [hb12.len]; omega) rfl
 exact ⟨⟨fs.take m, hrd, hC.asc, fun i => by rw [hC.gt, show k = es.length by omega, List.take_of_length_le oM, get_perm hprm], by rw [List.length_take]; omega⟩, hE⟩
end Go.Proofs.YtelbjmhhbeijkaaGreat
namespace Go.Proofs.YtelbjmhhbeijkaaGreat
open Go.Vg Go.RowKit _root_.Go.Proofs.Tryz
set_option linter.unusedVariables false
open Go.Vm
def OpOk (P : Program) (kc : Nat) (cl : List Value) (ob : Option Nat) (K L L2 : Nat) (op : Rat → Rat → Rat) (J : List (Rat × Rat) → World → Prop) : Prop :=
  ∀ {w : World} {ps : List (Rat × Rat)} {s1 : Bool} {D1 E1 : Nat → TypeId → Prop} {v1 u1 : Value} {x1 d1 : List Nat} {p : Rat} {s2 : Bool} {D2 E2 : Nat → TypeId → Prop} {v2 u2 : Value} {x2 d2 : List Nat} {q : Rat}, ps.length < K → J ps w →
    Sg (gN .u32) D1 w v1 x1 → Lm x1 → x1.length ≤ L → Sg (gN .u32) E1 w u1 d1 → Lm d1 → d1.length ≤ L → ratOf s1 (val x1) (val d1) = p →
    Sg (gN .u32) D2 w v2 x2 → Lm x2 → x2.length ≤ L → Sg (gN .u32) E2 w u2 d2 → Lm d2 → d2.length ≤ L → ratOf s2 (val x2) (val d2) = q →
    Calls P kc ([Value.agg #[.bool s1, v1, u1], Value.agg #[.bool s2, v2, u2]] ++ cl).toArray w fun e w' => ∃ v, e = .returned v ∧ ((∃ s' vn vd xn xd, v = .agg #[.bool s', vn, vd] ∧ Sg (gN .u32) (fun b T => w.heap.size ≤ b ∧ T = 89) w' vn xn ∧ Lm xn ∧ xn.length ≤ L2 ∧ Sg (gN .u32) (fun b T => w.heap.size ≤ b ∧ T = 89) w' vd xd ∧ Lm xd ∧ xd.length ≤ L2 ∧ ratOf s' (val xn) (val xd) = op p q ∧
      (op p q ≠ 0 → s' = decide ((op p q).num < 0) ∧ xn = digs (op p q).num.natAbs ∧ xd = digs (op p q).den)) ∧ J (ps ++ [(p, q)]) w' ∧ Gro ob w w')
theorem cons0 {a : List En} (h : 0 < a.length) : a = a.getD 0 default :: a.drop 1 := drop_cons a 0 h
theorem stp_l {a b : List En} (ha : 0 < a.length) (hb : b.length = 0) : Stp a b (a.getD 0 default).1 (a.getD 0 default).2 0 (a.drop 1) b := by
  rw [List.eq_nil_of_length_eq_zero hb]
  have := Stp.l (a.getD 0 default) (a.drop 1)
  rwa [← cons0 ha] at this
theorem stp_eq {a b : List En} (ha : 0 < a.length) (hb : 0 < b.length) (h : (b.getD 0 default).1 = (a.getD 0 default).1) : Stp a b (a.getD 0 default).1 (a.getD 0 default).2 (b.getD 0 default).2 (a.drop 1) (b.drop 1) := by
  have := Stp.eq (a.getD 0 default) (b.getD 0 default) (a.drop 1) (b.drop 1) h.symm
  rwa [← cons0 ha, ← cons0 hb] at this
theorem stp_lt {a b : List En} (ha : 0 < a.length) (hb : 0 < b.length) (h : (a.getD 0 default).1 < (b.getD 0 default).1) : Stp a b (a.getD 0 default).1 (a.getD 0 default).2 0 (a.drop 1) b := by
  have := Stp.lt (a.getD 0 default) (b.getD 0 default) (a.drop 1) (b.drop 1) h
  rwa [← cons0 ha, ← cons0 hb] at this
theorem stp_r {a b : List En} (hb : 0 < b.length) (h : a.length = 0 ∨ 0 < a.length ∧ (b.getD 0 default).1 < (a.getD 0 default).1) : Stp a b (b.getD 0 default).1 0 (b.getD 0 default).2 a (b.drop 1) := by
  rcases h with h | ⟨ha, h⟩
  · rw [List.eq_nil_of_length_eq_zero h]
    have := Stp.r (b.getD 0 default) (b.drop 1)
    rwa [← cons0 hb] at this
  have := Stp.gt (a.getD 0 default) (b.getD 0 default) (a.drop 1) (b.drop 1) h
  rwa [← cons0 ha, ← cons0 hb] at this
theorem stp_len {a b a' b' : List En} {i : Int} {p q : Rat} (h : Stp a b i p q a' b') : a'.length + b'.length < a.length + b.length := by
  cases h <;> simp <;> omega
set_option maxHeartbeats 8000000 in
theorem v_merge {w : World} {L L2 : Nat} {D : Nat → TypeId → Prop} {vxa vxb : Value} {xa xb : List Ent'} {kc : Nat} {cl : List Value} {ob : Option Nat} {op : Rat → Rat → Rat} {J : List (Rat × Rat) → World → Prop} (hxa0 : Es L D w vxa xa) (hxb0 : Es L D w vxb xb) (hasca : Asc xa) (hascb : Asc xb) (hent : Ent Tryz.prog kc) {K : Nat} (hop : OpOk Tryz.prog kc cl ob K L L2 op J) (hK : xa.length + xb.length ≤ K) (hJk : JOk 89 w.heap.size J) (hJ : J [] w) (hobl : ∀ k, ob = some k → k < w.heap.size) (hobd : ∀ k T, ob = some k → ¬ D k T) (hla : xa.length ≤ 1048576) (hlb : xb.length ≤ 1048576) (hL : L ≤ 17179869184) (hL2 : L2 ≤ 17179869184) :
    Calls Tryz.prog 43 #[vxa, vxb, (.func (.func kc) #[] cl.toArray)] w fun e w' => ∃ v, e = .returned v ∧ (∃ rs ps, Oe L2 (fun b T => w.heap.size ≤ b ∧ T = 89) w' w.heap.size 55 v rs ∧ Mg op xa xb [] [] rs ps ∧ J ps w' ∧ rs.length ≤ xa.length + xb.length ∧ ps.length ≤ xa.length + xb.length ∧ v.ownBlock ≠ none) ∧ Gro ob w w' := by
 have hE : Gro ob w w := Gro.refl ob w
 have hA := hxa0.old
 have hB := hxb0.old
 clear hxa0 hxb0
 have hlo : w.heap.size ≤ w.heap.size := Nat.le_refl _
 have hobD : ∀ k T, ob = some k → ¬ (D k T ∧ k < w.heap.size) := fun k T h hd => hobd k T h hd.1
 have hobF : ∀ k T, ob = some k → ¬ (w.heap.size ≤ k ∧ T = 89) := fun k T h hd => absurd hd.1 (Nat.not_le_of_lt (hobl k h))
 refine calls_of (n := 96) (rs := [.tmp 6]) func43 rfl rfl rfl bL ?_
 refine wset fun F0 hF0 => ?_
 refine wsr (aS (v := (.slice none (0) (0))) rfl (RL.nil (wsr (mV (v := vxa) (hF0 0) ?_))))
 obtain ⟨A1, c2, hv3, hc4, hc5⟩ := hA.len
 refine rV (r_len uT22 hv3) (mV (v := vxb) (hF0 1) ?_)
 obtain ⟨A6, c7, hv8, hc9, hc10⟩ := hB.len
 refine rV (r_len uT22 hv8) (rV (r_max2 (a := ((xa.length : Nat) : Int)) (b := ((xb.length : Nat) : Int)) rfl rfl) ?_)
 obtain ⟨cp, hcp, hcpl⟩ : ∃ c : Nat, (if ((xb.length : Nat) : Int) > ((xa.length : Nat) : Int) then ((xb.length : Nat) : Int) else ((xa.length : Nat) : Int)) = (c : Int) ∧ c ≤ 1048576 := ⟨max xa.length xb.length, by (repeat split) <;> omega, by omega⟩
 refine rU (h_make (n := 0) (c := cp) uT22 ty55 rfl rfl (int_eq hcp) (Nat.zero_le _) oM oM) ?_
 rintro _ w11 ⟨b12, rfl, hs15, hb14, he13⟩
 have ge_b12 := hE.ge hs15
 replace hE := hE.nx he13
 replace hJ := hJk.1 _ _ _ hJ (Sm.ext he13)
 have ho16 := Oe.room (L := L2) (D := (fun b T => w.heap.size ≤ b ∧ T = 89)) (c := cp) hb14 ge_b12 (by simp [Nat.mul_comm]; rfl) (by simp only [maxLen]; omega)
 refine aS (v := (.slice (some ⟨b12, 0, none⟩) 0 cp)) rfl (RL.nil (wseq ?_))
 refine wblock ?_
 refine wset fun F17 hF18 => ?_
 refine wloop (σ := List Ent' × List Ent' × List Ent' × List (Rat × Rat) × Value × Value × Value) (fun (s : List Ent' × List Ent' × List Ent' × List (Rat × Rat) × Value × Value × Value) fl wl => match s with | (a, b, rs, ps, va, vb, vr) => Off (rg 0 2 (rg 7 5 (rg 18 77 []))) F17 fl ∧ fl 0 = va ∧ fl 1 = vb ∧ fl 7 = vr ∧ (vr.ownBlock ≠ none) ∧ (Mg op xa xb a b rs ps) ∧ (ps.length + (a.length + b.length) ≤ xa.length + xb.length) ∧ (a.length + b.length + rs.length ≤ xa.length + xb.length) ∧ (Es L (fun b T => D b T ∧ b < w.heap.size) wl va a) ∧ (Es L (fun b T => D b T ∧ b < w.heap.size) wl vb b) ∧ (Oe L2 (fun b T => w.heap.size ≤ b ∧ T = 89) wl w.heap.size 55 vr rs) ∧ (J ps wl) ∧ (Gro ob w wl)) (fun (s : List Ent' × List Ent' × List Ent' × List (Rat × Rat) × Value × Value × Value) => match s with | (a, b, rs, ps, va, vb, vr) => a.length + b.length) (xa, xb, [], [], vxa, vxb, (.slice (some ⟨b12, 0, none⟩) 0 cp)) ?_ ?_
 ·replace hA := hA.tr (Sm.ext he13)
  replace hB := hB.tr (Sm.ext he13)
  exact ⟨Off.refl _ _, (hF18 0).trans (((hF0 0)).trans rfl), (hF18 1).trans (((hF0 1)).trans rfl), (hF18 7).trans (rfl), (by simp [Value.ownBlock]), Mg.start hasca hascb, by simp, by simp, hA, hB, ho16, hJ, hE⟩
 clear hA hB hE hJ ho16
 rintro ⟨a, b, rs, ps, va, vb, vr⟩ f19 w20 ⟨hoff21, hs22, hs23, hs24, hnn, hM, hpl, hll, hA, hB, hR, hJ, hE⟩
 refine wset fun F25 hF26 => ?_
 refine wcut (fun fl wl => Off (rg 18 8 []) F25 fl ∧ (0 < a.length + b.length) ∧ (Es L (fun b T => D b T ∧ b < w.heap.size) wl va a) ∧ (Es L (fun b T => D b T ∧ b < w.heap.size) wl vb b) ∧ (Gro ob w wl) ∧ (J ps wl) ∧ (Oe L2 (fun b T => w.heap.size ≤ b ∧ T = 89) wl w.heap.size 55 vr rs)) ?_ ?_
 ·have hoff27 := Off.refl (rg 18 8 []) F25
  refine wsr (mV (v := va) ((hF26 0).trans hs22) ?_)
  obtain ⟨A28, c29, hv30, hc31, hc32⟩ := hA.len
  refine rV (r_len uT22 hv30) (rV (r_gtr (k := .i64) (a := ((a.length : Nat) : Int)) (b := 0) rfl rfl) (mV (v := (bd (0 < ((a.length : Nat) : Int)))) rfl ?_))
  rcases bD (0 < ((a.length : Nat) : Int)) with ⟨hb33, hb33p⟩ | ⟨hb33, hb33p⟩
  ·refine RL.gno rfl rfl (bool_eq hb33) rfl dC ?_
   refine RL.gno rfl rfl (bool_eq hb33) rfl dC ?_
   refine RL.gno rfl rfl (bool_eq hb33) rfl dC ?_
   refine rV (r_pick_t (v := (.bool true)) (bool_eq hb33) rfl) (RL.nil ?_)
   refine wcond_t rfl ?_
   refine wskip ?_
   refine ⟨?_, ?_, ?_, ?_, ?_, ?_, ?_⟩
   · exact (by repeat (first | exact hoff27 | refine Off.st ?_ dC _ | refine Off.via hoff21 dC ?_ | refine Off.eq hF18 ?_))
   · omega
   · exact hA
   · exact hB
   · exact hE
   · exact hJ
   exact hR
  refine RL.gval rfl rfl (bool_eq hb33) rfl dC (r_move_as (v := vb) ((hF26 1).trans hs23)) ?_
  obtain ⟨A34, c35, hv36, hc37, hc38⟩ := hB.len
  refine RL.gval rfl rfl (bool_eq hb33) rfl dC (r_len uT22 hv36) ?_
  refine RL.gval rfl rfl (bool_eq hb33) rfl dC (r_gtr (k := .i64) (a := ((b.length : Nat) : Int)) (b := 0) rfl rfl) ?_
  refine rV (r_pick_f (v := (bd (0 < ((b.length : Nat) : Int)))) (bool_eq hb33) rfl) (RL.nil ?_)
  refine wcD (p := 0 < ((b.length : Nat) : Int)) rfl (fun hb39 hb39p => ?_) (fun hb39 hb39p => ?_)
  ·refine wskip ?_
   refine ⟨?_, ?_, ?_, ?_, ?_, ?_, ?_⟩
   · exact (by repeat (first | exact hoff27 | refine Off.st ?_ dC _ | refine Off.via hoff21 dC ?_ | refine Off.eq hF18 ?_))
   · omega
   · exact hA
   · exact hB
   · exact hE
   · exact hJ
   exact hR
  refine wexit ?_
  refine wsr (mV (v := vr) ((hF26 7).trans hs24) (aS (v := vr) rfl (RL.nil ?_)))
  refine wret ?_
  refine ⟨[vr], ⟨rfl, trivial⟩, ?_⟩
  have ha0 : a = [] := List.eq_nil_of_length_eq_zero oM
  have hb0 : b = [] := List.eq_nil_of_length_eq_zero oM
  rw [ha0, hb0] at hM
  exact ⟨⟨rs, ps, hR, hM, hJ, by omega, by omega, hnn⟩, hE⟩
 clear hA hB hE hJ hR
 rintro f40 w41 ⟨hoff42, hab, hA, hB, hE, hJ, hR⟩
 refine wblock ?_
 refine wsr (aS (v := (iv 0)) rfl (RL.nil (wsr ?_)))
 refine rU (h_alloc (cs := [(.bool false), (.slice none 0 0), (.slice none 0 0)]) ty44 rfl) ?_
 rintro _ w43 ⟨b44, rfl, hs47, hb46, he45⟩
 have ge_b44 := hE.ge hs47
 have on_vr_b44 : vr.ownBlock ≠ some b44 := fun h => absurd (hR.lt _ h) (by rw [hs47]; exact Nat.lt_irrefl _)
 replace hE := hE.nx he45
 replace hJ := hJk.1 _ _ _ hJ (Sm.ext he45)
 refine rU (h_alloc (cs := [(.bool false), (.slice none 0 0), (.slice none 0 0)]) ty44 rfl) ?_
 rintro _ w48 ⟨b49, rfl, hs52, hb51, he50⟩
 have lt_b44_b49 := Nat.lt_of_lt_of_eq hb46.lt hs52.symm
 have ge_b49 := hE.ge hs52
 replace hR := hR.ext he45
 have on_vr_b49 : vr.ownBlock ≠ some b49 := fun h => absurd (hR.lt _ h) (by rw [hs52]; exact Nat.lt_irrefl _)
 replace hE := hE.nx he50
 replace hJ := hJk.1 _ _ _ hJ (Sm.ext he50)
 refine RL.nil ?_
 refine wset fun F53 hF54 => ?_
 refine wcut (fun fl wl => ∃ i : Int, ∃ p : Rat, ∃ q : Rat, ∃ a2 : List Ent', ∃ b2 : List Ent', ∃ va2 : Value, ∃ vb2 : Value, ∃ s1 : Bool, ∃ v1 : Value, ∃ u1 : Value, ∃ x1 : List Nat, ∃ d1 : List Nat, ∃ s2 : Bool, ∃ v2 : Value, ∃ u2 : Value, ∃ x2 : List Nat, ∃ d2 : List Nat, Off (rg 0 2 (8 :: (rg 26 56 []))) F53 fl ∧ fl 8 = (iv i) ∧ fl 0 = va2 ∧ fl 1 = vb2 ∧ (Stp a b i p q a2 b2) ∧ (Lm x1) ∧ (x1.length ≤ L) ∧ (Lm d1) ∧ (d1.length ≤ L) ∧ (ratOf s1 (val x1) (val d1) = p) ∧ (Lm x2) ∧ (x2.length ≤ L) ∧ (Lm d2) ∧ (d2.length ≤ L) ∧ (ratOf s2 (val x2) (val d2) = q) ∧ (Es L (fun b T => D b T ∧ b < w.heap.size) wl va2 a2) ∧ (Es L (fun b T => D b T ∧ b < w.heap.size) wl vb2 b2) ∧ (Bk wl b44 44 [.bool s1, v1, u1]) ∧ (Sg (gN .u32) (fun b T => D b T ∧ b < w.heap.size) wl v1 x1) ∧ (Sg (gN .u32) (fun b T => D b T ∧ b < w.heap.size) wl u1 d1) ∧ (Bk wl b49 44 [.bool s2, v2, u2]) ∧ (Sg (gN .u32) (fun b T => D b T ∧ b < w.heap.size) wl v2 x2) ∧ (Sg (gN .u32) (fun b T => D b T ∧ b < w.heap.size) wl u2 d2) ∧ (Gro ob w wl) ∧ (J ps wl) ∧ (Oe L2 (fun b T => w.heap.size ≤ b ∧ T = 89) wl w.heap.size 55 vr rs)) ?_ ?_
 ·have hoff55 := Off.refl (rg 0 2 (8 :: (rg 26 56 []))) F53
  refine wset fun F56 hF57 => ?_
  refine wcut (fun fl wl => ∃ t : Bool, Off (rg 26 19 []) F56 fl ∧ fl 44 = (.bool t) ∧ ((t = true ∧ 0 < a.length ∧ (b.length = 0 ∨ (0 < b.length ∧ (a.getD (0) default).1 ≤ (b.getD (0) default).1))) ∨ (t = false ∧ 0 < b.length ∧ (a.length = 0 ∨ (0 < a.length ∧ (b.getD (0) default).1 < (a.getD (0) default).1)))) ∧ (Es L (fun b T => D b T ∧ b < w.heap.size) wl va a) ∧ (Es L (fun b T => D b T ∧ b < w.heap.size) wl vb b) ∧ (Gro ob w wl) ∧ (J ps wl) ∧ (Oe L2 (fun b T => w.heap.size ≤ b ∧ T = 89) wl w.heap.size 55 vr rs) ∧ (Bk wl b44 44 [(.bool false), (.slice none 0 0), (.slice none 0 0)]) ∧ (Bk wl b49 44 [(.bool false), (.slice none 0 0), (.slice none 0 0)])) ?_ ?_
  ·have hoff58 := Off.refl (rg 26 19 []) F56
   refine wdraw mixed fun w59 he60 => ?_
   replace hE := hE.nx he60
   replace hJ := hJk.1 _ _ _ hJ (Sm.ext he60)
   refine ra 0 rfl (fun _ => r_move_as (v := vb) ((hF57 1).trans ((hF54 1).trans ((hoff42 1 rfl).trans ((hF26 1).trans hs23))))) ?_
   obtain ⟨A61, c62, hv63, hc64, hc65⟩ := hB.len
   refine ra 1 rfl (fun _ => r_len uT22 hv63) ?_
   refine ra 2 rfl (fun _ => r_eql (k := .i64) (a := ((b.length : Nat) : Int)) (b := 0) rfl rfl) ?_
   refine ra 3 rfl (fun _ => r_move_as (v := (bd (((b.length : Nat) : Int) = 0))) rfl) ?_
   rcases bD (((b.length : Nat) : Int) = 0) with ⟨hb66, hb66p⟩ | ⟨hb66, hb66p⟩
   ·refine RA.gno 4 rfl kR rfl rfl (.inl (bool_eq hb66)) rfl dC ?_
    refine RA.gno 5 rfl kR rfl rfl (.inl (bool_eq hb66)) rfl dC ?_
    refine RA.gno 6 rfl kR rfl rfl (.inl (bool_eq hb66)) rfl dC ?_
    refine RA.gno 7 rfl kR rfl rfl (.inl (bool_eq hb66)) rfl dC ?_
    refine RA.gno 8 rfl kR rfl rfl (.inr rfl) rfl dC ?_
    refine RA.gno 9 rfl kR rfl rfl (.inr rfl) rfl dC ?_
    refine RA.gno 10 rfl kR rfl rfl (.inr rfl) rfl dC ?_
    refine RA.gno 11 rfl kR rfl rfl (.inr rfl) rfl dC ?_
    refine RA.gno 12 rfl kR rfl rfl (.inr rfl) rfl dC ?_
    refine RA.gno 13 rfl kR rfl rfl (.inr rfl) rfl dC ?_
    refine RA.gno 14 rfl kR rfl rfl (.inr rfl) rfl dC ?_
    refine RA.gno 15 rfl kR rfl rfl (.inr rfl) rfl dC ?_
    refine RA.gno 16 rfl kR rfl rfl (.inr rfl) rfl dC ?_
    refine RA.gno 17 rfl kR rfl rfl (.inl (bool_eq hb66)) rfl dC ?_
    refine ra 18 rfl (fun _ => r_pick_t (v := (.bool true)) (bool_eq hb66) rfl) ?_
    refine RA.done kR ?_
    have hm67 := Ext.trans he45 (Ext.trans he50 he60)
    replace hA := hA.tr (Sm.ext hm67)
    replace hB := hB.tr (Sm.ext hm67)
    replace hR := hR.ext (Ext.trans he50 he60)
    replace hb46 := hb46.ext (Ext.trans he50 he60)
    replace hb51 := hb51.ext he60
    refine ⟨true, ?_, ?_, ?_, ?_, ?_, ?_, ?_, ?_, ?_, ?_⟩
    · exact (by repeat (first | exact hoff58 | refine Off.st ?_ dC _ | refine Off.via hoff42 dC ?_ | refine Off.eq hF26 ?_ | refine Off.via hoff21 dC ?_ | refine Off.eq hF18 ?_))
    · rfl
    · first | exact .inl ⟨rfl, by omega, by omega⟩ | exact .inr ⟨rfl, by omega, by omega⟩ | (by_cases h9 : (a.getD (0) default).1 ≤ (b.getD (0) default).1; exact .inl ⟨decide_eq_true h9, by omega, by omega⟩; exact .inr ⟨decide_eq_false h9, by omega, by omega⟩)
    · exact hA
    · exact hB
    · exact hE
    · exact hJ
    · exact hR
    · exact hb46
    exact hb51
   refine RA.gtake 4 rfl kR rfl rfl (bool_eq hb66) rfl dC (fun _ => r_move_as (v := va) ((hF57 0).trans ((hF54 0).trans ((hoff42 0 rfl).trans ((hF26 0).trans hs22))))) ?_
   obtain ⟨A68, c69, hv70, hc71, hc72⟩ := hA.len
   refine RA.gtake 5 rfl kR rfl rfl (bool_eq hb66) rfl dC (fun _ => r_len uT22 hv70) ?_
   refine RA.gtake 6 rfl kR rfl rfl (bool_eq hb66) rfl dC (fun _ => r_gtr (k := .i64) (a := ((a.length : Nat) : Int)) (b := 0) rfl rfl) ?_
   refine RA.gtake 7 rfl kR rfl rfl (bool_eq hb66) rfl dC (fun _ => r_move_as (v := (bd (0 < ((a.length : Nat) : Int)))) rfl) ?_
   rcases bD (0 < ((a.length : Nat) : Int)) with ⟨hb73, hb73p⟩ | ⟨hb73, hb73p⟩
   ·refine RA.gtake 8 rfl kR rfl rfl (bool_eq hb73) rfl dC (fun _ => r_move_as (v := va) ((hF57 0).trans ((hF54 0).trans ((hoff42 0 rfl).trans ((hF26 0).trans hs22))))) ?_
    have hm91 := Ext.trans he45 (Ext.trans he50 he60)
    replace hA := hA.tr (Sm.ext hm91)
    obtain ⟨b74, o75, c76, s81, A79, B80, x82, d83, hv77, hc78, hx84, lm85, ln86, hd87, lm88, ln89, eq90⟩ := hA.ix (i := 0) (0) oM oM
    refine RA.gtake 9 rfl kR rfl rfl (bool_eq hb73) rfl dC (fun _ => r_indexAddr (i := 0) uT22 ty55 hv77 rfl oM oM) ?_
    refine RA.gtake 10 rfl kR rfl rfl (bool_eq hb73) rfl dC (fun _ => r_fieldAddr uT55 rfl ty3 rfl) ?_
    refine RA.grd 11 rfl kR rfl rfl rfl (bool_eq hb73) rfl dC (Ext.refl _) (fun u hu => r_load (v := (iv ((a.getD (0) default).1))) uT3 ag3 rfl (cell_ext hu (hc78 0 _ rfl))) ?_
    refine RA.gtake 12 rfl kR rfl rfl (bool_eq hb73) rfl dC (fun _ => r_move_as (v := vb) ((hF57 1).trans ((hF54 1).trans ((hoff42 1 rfl).trans ((hF26 1).trans hs23))))) ?_
    replace hB := hB.tr (Sm.ext hm91)
    obtain ⟨b92, o93, c94, s99, A97, B98, x100, d101, hv95, hc96, hx102, lm103, ln104, hd105, lm106, ln107, eq108⟩ := hB.ix (i := 0) (0) oM oM
    refine RA.gtake 13 rfl kR rfl rfl (bool_eq hb73) rfl dC (fun _ => r_indexAddr (i := 0) uT22 ty55 hv95 rfl oM oM) ?_
    refine RA.gtake 14 rfl kR rfl rfl (bool_eq hb73) rfl dC (fun _ => r_fieldAddr uT55 rfl ty3 rfl) ?_
    refine RA.grd 15 rfl kR rfl rfl rfl (bool_eq hb73) rfl dC (Ext.refl _) (fun u hu => r_load (v := (iv ((b.getD (0) default).1))) uT3 ag3 rfl (cell_ext hu (hc96 0 _ rfl))) ?_
    refine RA.gtake 16 rfl kR rfl rfl (bool_eq hb73) rfl dC (fun _ => r_leq (k := .i64) (a := (a.getD (0) default).1) (b := (b.getD (0) default).1) rfl rfl) ?_
    refine RA.gtake 17 rfl kR rfl rfl (bool_eq hb66) rfl dC (fun _ => r_pick_t (v := (bd (((a.getD (0) default).1) ≤ ((b.getD (0) default).1)))) (bool_eq hb73) rfl) ?_
    refine ra 18 rfl (fun _ => r_pick_f (v := (bd (((a.getD (0) default).1) ≤ ((b.getD (0) default).1)))) (bool_eq hb66) rfl) ?_
    refine RA.done kR ?_
    replace hR := hR.ext (Ext.trans he50 he60)
    replace hb46 := hb46.ext (Ext.trans he50 he60)
    replace hb51 := hb51.ext he60
    refine ⟨decide (((a.getD (0) default).1) ≤ ((b.getD (0) default).1)), ?_, ?_, ?_, ?_, ?_, ?_, ?_, ?_, ?_, ?_⟩
    · exact (by repeat (first | exact hoff58 | refine Off.st ?_ dC _ | refine Off.via hoff42 dC ?_ | refine Off.eq hF26 ?_ | refine Off.via hoff21 dC ?_ | refine Off.eq hF18 ?_))
    · rfl
    · first | exact .inl ⟨rfl, by omega, by omega⟩ | exact .inr ⟨rfl, by omega, by omega⟩ | (by_cases h9 : (a.getD (0) default).1 ≤ (b.getD (0) default).1; exact .inl ⟨decide_eq_true h9, by omega, by omega⟩; exact .inr ⟨decide_eq_false h9, by omega, by omega⟩)
    · exact hA
    · exact hB
    · exact hE
    · exact hJ
    · exact hR
    · exact hb46
    exact hb51
   refine RA.gno 8 rfl kR rfl rfl (.inl (bool_eq hb73)) rfl dC ?_
   refine RA.gno 9 rfl kR rfl rfl (.inl (bool_eq hb73)) rfl dC ?_
   refine RA.gno 10 rfl kR rfl rfl (.inl (bool_eq hb73)) rfl dC ?_
   refine RA.gno 11 rfl kR rfl rfl (.inl (bool_eq hb73)) rfl dC ?_
   refine RA.gno 12 rfl kR rfl rfl (.inl (bool_eq hb73)) rfl dC ?_
   refine RA.gno 13 rfl kR rfl rfl (.inl (bool_eq hb73)) rfl dC ?_
   refine RA.gno 14 rfl kR rfl rfl (.inl (bool_eq hb73)) rfl dC ?_
   refine RA.gno 15 rfl kR rfl rfl (.inl (bool_eq hb73)) rfl dC ?_
   refine RA.gno 16 rfl kR rfl rfl (.inl (bool_eq hb73)) rfl dC ?_
   refine RA.gtake 17 rfl kR rfl rfl (bool_eq hb66) rfl dC (fun _ => r_pick_f (v := (.bool false)) (bool_eq hb73) rfl) ?_
   refine ra 18 rfl (fun _ => r_pick_f (v := (.bool false)) (bool_eq hb66) rfl) ?_
   refine RA.done kR ?_
   have hm109 := Ext.trans he45 (Ext.trans he50 he60)
   replace hA := hA.tr (Sm.ext hm109)
   replace hB := hB.tr (Sm.ext hm109)
   replace hR := hR.ext (Ext.trans he50 he60)
   replace hb46 := hb46.ext (Ext.trans he50 he60)
   replace hb51 := hb51.ext he60
   refine ⟨false, ?_, ?_, ?_, ?_, ?_, ?_, ?_, ?_, ?_, ?_⟩
   · exact (by repeat (first | exact hoff58 | refine Off.st ?_ dC _ | refine Off.via hoff42 dC ?_ | refine Off.eq hF26 ?_ | refine Off.via hoff21 dC ?_ | refine Off.eq hF18 ?_))
   · rfl
   · first | exact .inl ⟨rfl, by omega, by omega⟩ | exact .inr ⟨rfl, by omega, by omega⟩ | (by_cases h9 : (a.getD (0) default).1 ≤ (b.getD (0) default).1; exact .inl ⟨decide_eq_true h9, by omega, by omega⟩; exact .inr ⟨decide_eq_false h9, by omega, by omega⟩)
   · exact hA
   · exact hB
   · exact hE
   · exact hJ
   · exact hR
   · exact hb46
   exact hb51
  clear hA hB hE hJ hR hb46 hb51
  rintro f110 w111 ⟨t, hoff112, hs113, ht, hA, hB, hE, hJ, hR, hb46, hb51⟩
  refine wcond (b := t) hs113 (fun hb114 => ?_) (fun hb114 => ?_)
  ·have hb114p := hb114
   have ht2 := (ht.resolve_right (fun h => by rw [h.1] at hb114; cases hb114)).2
   refine wseq ?_
   obtain ⟨b115, o116, c117, s122, A120, B121, x123, d124, hv118, hc119, hx125, lm126, ln127, hd128, lm129, ln130, eq131⟩ := hA.ix (i := 0) (0) oM oM
   have lo_hc119 := hA.lo oM hv118
   refine wdrawT (fun u => ∀ j v, [(iv ((a.getD (0) default).1)), (.bool s122), (sv A120), (sv B121)][j]? = some v → u.cell? ⟨b115, o116 + (0 : Int).toNat * 4 + j, none⟩ = some v) mixed fun w132 he133 => ?_
   replace hE := hE.nx he133
   replace hJ := hJk.1 _ _ _ hJ (Sm.ext he133)
   refine ra 0 rfl (fun _ => r_move_as (v := va) ((hoff112 0 rfl).trans ((hF57 0).trans ((hF54 0).trans ((hoff42 0 rfl).trans ((hF26 0).trans hs22)))))) ?_
   refine ra 1 rfl (fun _ => r_indexAddr (i := 0) uT22 ty55 hv118 rfl oM oM) ?_
   refine ra 2 rfl (fun _ => r_fieldAddr uT55 rfl ty3 rfl) ?_
   replace hc119 := cells_ext he133 hc119
   refine RA.rd 3 rfl kR rfl rfl rfl dC hc119 (fun u hu => r_load (v := (iv ((a.getD (0) default).1))) uT3 ag3 rfl (hu 0 _ rfl)) ?_
   refine ra 4 rfl (fun _ => r_move_as (v := va) ((hoff112 0 rfl).trans ((hF57 0).trans ((hF54 0).trans ((hoff42 0 rfl).trans ((hF26 0).trans hs22)))))) ?_
   refine ra 5 rfl (fun _ => r_indexAddr (i := 0) uT22 ty55 hv118 rfl oM oM) ?_
   refine ra 6 rfl (fun _ => r_fieldAddr uT55 rfl ty44 rfl) ?_
   refine RA.rd 7 rfl kR rfl rfl rfl dC hc119 (fun u hu => r_loada (cs := [(.bool s122), (sv A120), (sv B121)]) uT44 ag44 ty44 rfl (cdrop hu 1)) ?_
   refine ra 8 rfl (fun _ => r_assign_as (v := (iv ((a.getD (0) default).1))) rfl) ?_
   refine RA.all [9] kR rfl ?_
   replace hb46 := hb46.ext he133
   refine RS.runs rfl rfl rfl (h_store (vv := (.agg #[(.bool s122), (sv A120), (sv B121)])) (cs := [(.bool s122), (sv A120), (sv B121)]) (o := 0) ty44 ((hoff112 9 rfl).trans ((hF57 9).trans (hF54 9))) rfl rfl rfl (one_cons rfl (one_cons hx125.one (one_cons hd128.one one_nil))) hb46 bL) ?_ RS.nil
   rintro w134 ⟨hn135, hx136, hz137⟩
   refine ⟨.inr (.inl kR), ?_⟩
   replace hE := hE.nb hx136 ge_b44
   have nb_hx136 := (Nb.of hb46 (nu_cons rfl (nu_cons rfl (nu_cons rfl nu_nil))))
   replace hJ := hJk.2 _ _ _ _ hJ hx136 nb_hx136 ge_b44
   replace hb46 : Bk w134 b44 44 [(.bool s122), (sv A120), (sv B121)] := hn135
   refine RA.done kR ?_
   refine wsr (mV (v := va) ((hoff112 0 rfl).trans ((hF57 0).trans ((hF54 0).trans ((hoff42 0 rfl).trans ((hF26 0).trans hs22))))) ?_)
   obtain ⟨A138, c139, hv140, hc141, hc142⟩ := hA.len
   replace hA := (hA.tr (Sm.ext he133)).tr (Sm.exc hx136 (fun _ _ _ _ hd => absurd hd.2 (Nat.not_lt_of_le ge_b44)))
   have r143 := hA.drop (1) oM hv140
   refine rV (r_sl (l := 1) (kk := 1) uT22 ty55 hv140 rfl oM oM) (aS (v := (.slice (if c139 = 1 then (A138 : Option Addr) else (A138 : Option Addr).map (·.add (1 * 4))) (a.length - 1) (c139 - 1))) rfl (RL.nil (wsr (mV (v := vb) ((hoff112 1 rfl).trans ((hF57 1).trans ((hF54 1).trans ((hoff42 1 rfl).trans ((hF26 1).trans hs23))))) ?_))))
   obtain ⟨A144, c145, hv146, hc147, hc148⟩ := hB.len
   refine rV (r_len uT22 hv146) (rV (r_gtr (k := .i64) (a := ((b.length : Nat) : Int)) (b := 0) rfl rfl) (mV (v := (bd (0 < ((b.length : Nat) : Int)))) rfl ?_))
   rcases bD (0 < ((b.length : Nat) : Int)) with ⟨hb149, hb149p⟩ | ⟨hb149, hb149p⟩
   ·refine RL.gval rfl rfl (bool_eq hb149) rfl dC (r_move_as (v := vb) ((hoff112 1 rfl).trans ((hF57 1).trans ((hF54 1).trans ((hoff42 1 rfl).trans ((hF26 1).trans hs23)))))) ?_
    replace hB := (hB.tr (Sm.ext he133)).tr (Sm.exc hx136 (fun _ _ _ _ hd => absurd hd.2 (Nat.not_lt_of_le ge_b44)))
    obtain ⟨b150, o151, c152, s157, A155, B156, x158, d159, hv153, hc154, hx160, lm161, ln162, hd163, lm164, ln165, eq166⟩ := hB.ix (i := 0) (0) oM oM
    refine RL.gval rfl rfl (bool_eq hb149) rfl dC (r_indexAddr (i := 0) uT22 ty55 hv153 rfl oM oM) ?_
    refine RL.gval rfl rfl (bool_eq hb149) rfl dC (r_fieldAddr uT55 rfl ty3 rfl) ?_
    refine RL.gval rfl rfl (bool_eq hb149) rfl dC (r_load (v := (iv ((b.getD (0) default).1))) uT3 ag3 rfl (hc154 0 _ rfl)) ?_
    refine RL.gval rfl rfl (bool_eq hb149) rfl dC (r_move_as (v := (iv ((a.getD (0) default).1))) rfl) ?_
    refine RL.gval rfl rfl (bool_eq hb149) rfl dC (r_eql (k := .i64) (a := (b.getD (0) default).1) (b := (a.getD (0) default).1) rfl rfl) ?_
    refine rV (r_pick_t (v := (bd (((b.getD (0) default).1) = ((a.getD (0) default).1)))) (bool_eq hb149) rfl) (RL.nil ?_)
    refine wcD (p := ((b.getD (0) default).1) = ((a.getD (0) default).1)) rfl (fun hb167 hb167p => ?_) (fun hb167 hb167p => ?_)
    ·refine wsr ?_
     refine mV (v := vb) ((hoff112 1 rfl).trans ((hF57 1).trans ((hF54 1).trans ((hoff42 1 rfl).trans ((hF26 1).trans hs23))))) ?_
     obtain ⟨b168, o169, c170, s175, A173, B174, x176, d177, hv171, hc172, hx178, lm179, ln180, hd181, lm182, ln183, eq184⟩ := hB.ix (i := 0) (0) oM oM
     refine rV (r_indexAddr (i := 0) uT22 ty55 hv171 rfl oM oM) (rV (r_fieldAddr uT55 rfl ty44 rfl) (rV (r_loada (cs := [(.bool s175), (sv A173), (sv B174)]) uT44 ag44 ty44 rfl (cdrop hc172 1)) ?_))
     replace hb51 := (hb51.ext he133).exc hx136 (Nat.ne_of_gt lt_b44_b49)
     refine RL.runs rfl rfl (h_store (vv := (.agg #[(.bool s175), (sv A173), (sv B174)])) (cs := [(.bool s175), (sv A173), (sv B174)]) (o := 0) ty44 ((hoff112 10 rfl).trans ((hF57 10).trans (hF54 10))) rfl rfl rfl (one_cons rfl (one_cons hx178.one (one_cons hd181.one one_nil))) hb51 bL) ?_
     rintro w185 ⟨hn186, hx187, hz188⟩
     replace hE := hE.nb hx187 ge_b49
     have nb_hx187 := (Nb.of hb51 (nu_cons rfl (nu_cons rfl (nu_cons rfl nu_nil))))
     replace hJ := hJk.2 _ _ _ _ hJ hx187 nb_hx187 ge_b49
     replace hb51 : Bk w185 b49 44 [(.bool s175), (sv A173), (sv B174)] := hn186
     refine RL.nil (wregion (mV (v := vb) ((hoff112 1 rfl).trans ((hF57 1).trans ((hF54 1).trans ((hoff42 1 rfl).trans ((hF26 1).trans hs23))))) ?_))
     replace hB := hB.tr (Sm.exc hx187 (fun _ _ _ _ hd => absurd hd.2 (Nat.not_lt_of_le ge_b49)))
     have r189 := hB.drop (1) oM hv146
     refine rV (r_sl (l := 1) (kk := 1) uT22 ty55 hv146 rfl oM oM) (aS (v := (.slice (if c145 = 1 then (A144 : Option Addr) else (A144 : Option Addr).map (·.add (1 * 4))) (b.length - 1) (c145 - 1))) rfl (RL.nil ?_))
     replace r143 := r143.tr (Sm.exc hx187 (fun _ _ _ _ hd => absurd hd.2 (Nat.not_lt_of_le ge_b49)))
     replace hb46 := hb46.exc hx187 (Nat.ne_of_lt lt_b44_b49)
     replace hx125 := ((hx125.tr (Sm.ext he133)).apn hx136 nb_hx136).apn hx187 nb_hx187
     replace hd128 := ((hd128.tr (Sm.ext he133)).apn hx136 nb_hx136).apn hx187 nb_hx187
     replace hx178 := hx178.apn hx187 nb_hx187
     replace hd181 := hd181.apn hx187 nb_hx187
     replace hR := ((hR.ext he133).exo hx136 on_vr_b44 nb_hx136).exo hx187 on_vr_b49 nb_hx187
     refine ⟨(a.getD (0) default).1, (a.getD (0) default).2, (b.getD (0) default).2, (a.drop (1)), (b.drop (1)), (.slice (if c139 = 1 then (A138 : Option Addr) else (A138 : Option Addr).map (·.add (1 * 4))) (a.length - 1) (c139 - 1)), (.slice (if c145 = 1 then (A144 : Option Addr) else (A144 : Option Addr).map (·.add (1 * 4))) (b.length - 1) (c145 - 1)), s122, (sv A120), (sv B121), x123, d124, s175, (sv A173), (sv B174), x176, d177, ?_, ?_, ?_, ?_, ?_, ?_, ?_, ?_, ?_, ?_, ?_, ?_, ?_, ?_, ?_, ?_, ?_, ?_, ?_, ?_, ?_, ?_, ?_, ?_, ?_, ?_⟩
     · exact (by repeat (first | exact hoff55 | refine Off.st ?_ dC _ | refine Off.via hoff112 dC ?_ | refine Off.eq hF57 ?_ | refine Off.via hoff42 dC ?_ | refine Off.eq hF26 ?_ | refine Off.via hoff21 dC ?_ | refine Off.eq hF18 ?_))
     · rfl
     · rfl
     · rfl
     · first | exact stp_eq oM oM oM | exact stp_l oM oM | exact stp_lt oM oM oM | exact stp_r oM oM
     · exact lm126
     · first | omega | simp
     · exact lm129
     · first | omega | simp
     · exact eq131
     · exact lm179
     · first | omega | simp
     · exact lm182
     · first | omega | simp
     · exact eq184
     · exact r143
     · exact r189
     · exact hb46
     · exact hx125
     · exact hd128
     · exact hb51
     · exact hx178
     · exact hd181
     · exact hE
     · exact hJ
     exact hR
    refine wskip ?_
    replace hx125 := (hx125.tr (Sm.ext he133)).apn hx136 nb_hx136
    replace hd128 := (hd128.tr (Sm.ext he133)).apn hx136 nb_hx136
    replace hb51 := (hb51.ext he133).exc hx136 (Nat.ne_of_gt lt_b44_b49)
    replace hR := (hR.ext he133).exo hx136 on_vr_b44 nb_hx136
    refine ⟨(a.getD (0) default).1, (a.getD (0) default).2, 0, (a.drop (1)), b, (.slice (if c139 = 1 then (A138 : Option Addr) else (A138 : Option Addr).map (·.add (1 * 4))) (a.length - 1) (c139 - 1)), vb, s122, (sv A120), (sv B121), x123, d124, false, (.slice none 0 0), (.slice none 0 0), [], [], ?_, ?_, ?_, ?_, ?_, ?_, ?_, ?_, ?_, ?_, ?_, ?_, ?_, ?_, ?_, ?_, ?_, ?_, ?_, ?_, ?_, ?_, ?_, ?_, ?_, ?_⟩
    · exact (by repeat (first | exact hoff55 | refine Off.st ?_ dC _ | refine Off.via hoff112 dC ?_ | refine Off.eq hF57 ?_ | refine Off.via hoff42 dC ?_ | refine Off.eq hF26 ?_ | refine Off.via hoff21 dC ?_ | refine Off.eq hF18 ?_))
    · rfl
    · rfl
    · refine (((hoff112 1 rfl).trans ((hF57 1).trans ((hF54 1).trans ((hoff42 1 rfl).trans ((hF26 1).trans hs23)))))).trans ?_
      rfl
    · first | exact stp_eq oM oM oM | exact stp_l oM oM | exact stp_lt oM oM oM | exact stp_r oM oM
    · exact lm126
    · first | omega | simp
    · exact lm129
    · first | omega | simp
    · exact eq131
    · exact Lm.nil
    · first | omega | simp
    · exact Lm.nil
    · first | omega | simp
    · exact rfl
    · exact r143
    · exact hB
    · exact hb46
    · exact hx125
    · exact hd128
    · exact hb51
    · exact Sg.nil
    · exact Sg.nil
    · exact hE
    · exact hJ
    exact hR
   refine RL.gno rfl rfl (bool_eq hb149) rfl dC ?_
   refine RL.gno rfl rfl (bool_eq hb149) rfl dC ?_
   refine RL.gno rfl rfl (bool_eq hb149) rfl dC ?_
   refine RL.gno rfl rfl (bool_eq hb149) rfl dC ?_
   refine RL.gno rfl rfl (bool_eq hb149) rfl dC ?_
   refine RL.gno rfl rfl (bool_eq hb149) rfl dC ?_
   refine rV (r_pick_f (v := (.bool false)) (bool_eq hb149) rfl) (RL.nil ?_)
   refine wcond_f rfl ?_
   refine wskip ?_
   replace hB := (hB.tr (Sm.ext he133)).tr (Sm.exc hx136 (fun _ _ _ _ hd => absurd hd.2 (Nat.not_lt_of_le ge_b44)))
   replace hx125 := (hx125.tr (Sm.ext he133)).apn hx136 nb_hx136
   replace hd128 := (hd128.tr (Sm.ext he133)).apn hx136 nb_hx136
   replace hb51 := (hb51.ext he133).exc hx136 (Nat.ne_of_gt lt_b44_b49)
   replace hR := (hR.ext he133).exo hx136 on_vr_b44 nb_hx136
   refine ⟨(a.getD (0) default).1, (a.getD (0) default).2, 0, (a.drop (1)), b, (.slice (if c139 = 1 then (A138 : Option Addr) else (A138 : Option Addr).map (·.add (1 * 4))) (a.length - 1) (c139 - 1)), vb, s122, (sv A120), (sv B121), x123, d124, false, (.slice none 0 0), (.slice none 0 0), [], [], ?_, ?_, ?_, ?_, ?_, ?_, ?_, ?_, ?_, ?_, ?_, ?_, ?_, ?_, ?_, ?_, ?_, ?_, ?_, ?_, ?_, ?_, ?_, ?_, ?_, ?_⟩
   · exact (by repeat (first | exact hoff55 | refine Off.st ?_ dC _ | refine Off.via hoff112 dC ?_ | refine Off.eq hF57 ?_ | refine Off.via hoff42 dC ?_ | refine Off.eq hF26 ?_ | refine Off.via hoff21 dC ?_ | refine Off.eq hF18 ?_))
   · rfl
   · rfl
   · refine (((hoff112 1 rfl).trans ((hF57 1).trans ((hF54 1).trans ((hoff42 1 rfl).trans ((hF26 1).trans hs23)))))).trans ?_
     rfl
   · first | exact stp_eq oM oM oM | exact stp_l oM oM | exact stp_lt oM oM oM | exact stp_r oM oM
   · exact lm126
   · first | omega | simp
   · exact lm129
   · first | omega | simp
   · exact eq131
   · exact Lm.nil
   · first | omega | simp
   · exact Lm.nil
   · first | omega | simp
   · exact rfl
   · exact r143
   · exact hB
   · exact hb46
   · exact hx125
   · exact hd128
   · exact hb51
   · exact Sg.nil
   · exact Sg.nil
   · exact hE
   · exact hJ
   exact hR
  have hb114p := hb114
  have ht2 := (ht.resolve_left (fun h => by rw [h.1] at hb114; cases hb114)).2
  refine wseq ?_
  obtain ⟨b190, o191, c192, s197, A195, B196, x198, d199, hv193, hc194, hx200, lm201, ln202, hd203, lm204, ln205, eq206⟩ := hB.ix (i := 0) (0) oM oM
  have lo_hc194 := hB.lo oM hv193
  refine wdrawT (fun u => ∀ j v, [(iv ((b.getD (0) default).1)), (.bool s197), (sv A195), (sv B196)][j]? = some v → u.cell? ⟨b190, o191 + (0 : Int).toNat * 4 + j, none⟩ = some v) mixed fun w207 he208 => ?_
  replace hE := hE.nx he208
  replace hJ := hJk.1 _ _ _ hJ (Sm.ext he208)
  refine ra 0 rfl (fun _ => r_move_as (v := vb) ((hoff112 1 rfl).trans ((hF57 1).trans ((hF54 1).trans ((hoff42 1 rfl).trans ((hF26 1).trans hs23)))))) ?_
  refine ra 1 rfl (fun _ => r_indexAddr (i := 0) uT22 ty55 hv193 rfl oM oM) ?_
  refine ra 2 rfl (fun _ => r_fieldAddr uT55 rfl ty3 rfl) ?_
  replace hc194 := cells_ext he208 hc194
  refine RA.rd 3 rfl kR rfl rfl rfl dC hc194 (fun u hu => r_load (v := (iv ((b.getD (0) default).1))) uT3 ag3 rfl (hu 0 _ rfl)) ?_
  refine ra 4 rfl (fun _ => r_move_as (v := vb) ((hoff112 1 rfl).trans ((hF57 1).trans ((hF54 1).trans ((hoff42 1 rfl).trans ((hF26 1).trans hs23)))))) ?_
  refine ra 5 rfl (fun _ => r_indexAddr (i := 0) uT22 ty55 hv193 rfl oM oM) ?_
  refine ra 6 rfl (fun _ => r_fieldAddr uT55 rfl ty44 rfl) ?_
  refine RA.rd 7 rfl kR rfl rfl rfl dC hc194 (fun u hu => r_loada (cs := [(.bool s197), (sv A195), (sv B196)]) uT44 ag44 ty44 rfl (cdrop hu 1)) ?_
  refine ra 8 rfl (fun _ => r_assign_as (v := (iv ((b.getD (0) default).1))) rfl) ?_
  refine RA.all [9] kR rfl ?_
  replace hb51 := hb51.ext he208
  refine RS.runs rfl rfl rfl (h_store (vv := (.agg #[(.bool s197), (sv A195), (sv B196)])) (cs := [(.bool s197), (sv A195), (sv B196)]) (o := 0) ty44 ((hoff112 10 rfl).trans ((hF57 10).trans (hF54 10))) rfl rfl rfl (one_cons rfl (one_cons hx200.one (one_cons hd203.one one_nil))) hb51 bL) ?_ RS.nil
  rintro w209 ⟨hn210, hx211, hz212⟩
  refine ⟨.inr (.inl kR), ?_⟩
  replace hE := hE.nb hx211 ge_b49
  have nb_hx211 := (Nb.of hb51 (nu_cons rfl (nu_cons rfl (nu_cons rfl nu_nil))))
  replace hJ := hJk.2 _ _ _ _ hJ hx211 nb_hx211 ge_b49
  replace hb51 : Bk w209 b49 44 [(.bool s197), (sv A195), (sv B196)] := hn210
  refine RA.done kR ?_
  refine wregion (mV (v := vb) ((hoff112 1 rfl).trans ((hF57 1).trans ((hF54 1).trans ((hoff42 1 rfl).trans ((hF26 1).trans hs23))))) ?_)
  obtain ⟨A213, c214, hv215, hc216, hc217⟩ := hB.len
  replace hB := (hB.tr (Sm.ext he208)).tr (Sm.exc hx211 (fun _ _ _ _ hd => absurd hd.2 (Nat.not_lt_of_le ge_b49)))
  have r218 := hB.drop (1) oM hv215
  refine rV (r_sl (l := 1) (kk := 1) uT22 ty55 hv215 rfl oM oM) (aS (v := (.slice (if c214 = 1 then (A213 : Option Addr) else (A213 : Option Addr).map (·.add (1 * 4))) (b.length - 1) (c214 - 1))) rfl (RL.nil ?_))
  replace hA := (hA.tr (Sm.ext he208)).tr (Sm.exc hx211 (fun _ _ _ _ hd => absurd hd.2 (Nat.not_lt_of_le ge_b49)))
  replace hb46 := (hb46.ext he208).exc hx211 (Nat.ne_of_lt lt_b44_b49)
  replace hx200 := (hx200.tr (Sm.ext he208)).apn hx211 nb_hx211
  replace hd203 := (hd203.tr (Sm.ext he208)).apn hx211 nb_hx211
  replace hR := (hR.ext he208).exo hx211 on_vr_b49 nb_hx211
  refine ⟨(b.getD (0) default).1, 0, (b.getD (0) default).2, a, (b.drop (1)), va, (.slice (if c214 = 1 then (A213 : Option Addr) else (A213 : Option Addr).map (·.add (1 * 4))) (b.length - 1) (c214 - 1)), false, (.slice none 0 0), (.slice none 0 0), [], [], s197, (sv A195), (sv B196), x198, d199, ?_, ?_, ?_, ?_, ?_, ?_, ?_, ?_, ?_, ?_, ?_, ?_, ?_, ?_, ?_, ?_, ?_, ?_, ?_, ?_, ?_, ?_, ?_, ?_, ?_, ?_⟩
  · exact (by repeat (first | exact hoff55 | refine Off.st ?_ dC _ | refine Off.via hoff112 dC ?_ | refine Off.eq hF57 ?_ | refine Off.via hoff42 dC ?_ | refine Off.eq hF26 ?_ | refine Off.via hoff21 dC ?_ | refine Off.eq hF18 ?_))
  · rfl
  · refine (((hoff112 0 rfl).trans ((hF57 0).trans ((hF54 0).trans ((hoff42 0 rfl).trans ((hF26 0).trans hs22)))))).trans ?_
    rfl
  · rfl
  · first | exact stp_eq oM oM oM | exact stp_l oM oM | exact stp_lt oM oM oM | exact stp_r oM oM
  · exact Lm.nil
  · first | omega | simp
  · exact Lm.nil
  · first | omega | simp
  · exact rfl
  · exact lm201
  · first | omega | simp
  · exact lm204
  · first | omega | simp
  · exact eq206
  · exact hA
  · exact r218
  · exact hb46
  · exact Sg.nil
  · exact Sg.nil
  · exact hb51
  · exact hx200
  · exact hd203
  · exact hE
  · exact hJ
  exact hR
 clear hA hB hE hJ hR hb46 hb51
 rintro f219 w220 ⟨i, p, q, a2, b2, va2, vb2, s1, v1, u1, x1, d1, s2, v2, u2, x2, d2, hoff221, hs222, hs223, hs224, hstp, lmx1, lnx1, lmd1, lnd1, eq1, lmx2, lnx2, lmd2, lnd2, eq2, hA2, hB2, hb46, hx1, hd1, hb51, hx2, hd2, hE, hJ, hR⟩
 refine wsr (mV (v := (.func (.func kc) #[] cl.toArray)) ((hoff221 2 rfl).trans ((hF54 2).trans ((hoff42 2 rfl).trans ((hF26 2).trans ((hoff21 2 rfl).trans ((hF18 2).trans (hF0 2))))))) ?_)
 have hc225 := hb46.cells (o := 0) (cs := [(.bool s1), v1, u1]) rfl
 refine rV (r_loada (o := 0) (cs := [(.bool s1), v1, u1]) uT44 ag44 ty44 ((hoff221 9 rfl).trans (hF54 9)) hc225) ?_
 have hc226 := hb51.cells (o := 0) (cs := [(.bool s2), v2, u2]) rfl
 refine rV (r_loada (o := 0) (cs := [(.bool s2), v2, u2]) uT44 ag44 ty44 ((hoff221 10 rfl).trans (hF54 10)) hc226) ?_
 refine RL.call rfl rfl dC (r_callv (vl := [(.agg #[(.bool s1), v1, u1]), (.agg #[(.bool s2), v2, u2])]) (cl := cl) rfl hent rfl) (hop oM hJ hx1 lmx1 oS hd1 lmd1 oS (show ratOf s1 (val x1) (val d1) = p from eq1) hx2 lmx2 oS hd2 lmd2 oS (show ratOf s2 (val x2) (val d2) = q from eq2)) ?_
 rintro _ w227 ⟨⟨s', vn, vd, xn, xd, rfl, hn, lmn, lnn, hd, lmd, lnd, heq, hcan⟩, hJ2, hg228⟩
 replace hn : Sg (gN .u32) (fun b T => w.heap.size ≤ b ∧ T = 89) w227 vn xn := hn.mono (fun _ _ h => ⟨Nat.le_trans hE.size h.1, h.2⟩)
 replace hd : Sg (gN .u32) (fun b T => w.heap.size ≤ b ∧ T = 89) w227 vd xd := hd.mono (fun _ _ h => ⟨Nat.le_trans hE.size h.1, h.2⟩)
 replace hE := hE.trans hg228
 replace hJ := hJ2
 refine rU (h_alloc (cs := [(.bool false), (.slice none 0 0), (.slice none 0 0)]) ty44 rfl) ?_
 rintro _ w229 ⟨b230, rfl, hs233, hb232, he231⟩
 replace hb51 := hb51.oo hg228 hobl ge_b49
 have lt_b49_b230 := Nat.lt_of_lt_of_eq hb51.lt hs233.symm
 have ge_b230 := hE.ge hs233
 replace hR := hR.oo hg228 hobl hobF
 have on_vr_b230 : vr.ownBlock ≠ some b230 := fun h => absurd (hR.lt _ h) (by rw [hs233]; exact Nat.lt_irrefl _)
 replace hE := hE.nx he231
 replace hJ := hJk.1 _ _ _ hJ (Sm.ext he231)
 refine RL.runs rfl rfl (h_store (vv := (.agg #[(.bool (s')), vn, vd])) (cs := [(.bool (s')), vn, vd]) (o := 0) ty44 rfl rfl rfl rfl (one_cons rfl (one_cons hn.one (one_cons hd.one one_nil))) hb232 bL) ?_
 rintro w234 ⟨hn235, hx236, hz237⟩
 replace hE := hE.nb hx236 ge_b230
 have nb_hx236 := (Nb.of hb232 (nu_cons rfl (nu_cons rfl (nu_cons rfl nu_nil))))
 replace hJ := hJk.2 _ _ _ _ hJ hx236 nb_hx236 ge_b230
 replace hb232 : Bk w234 b230 44 [(.bool (s')), vn, vd] := hn235
 refine RL.nil (wsr ?_)
 have hc238 := hb232.cells (o := 0) (cs := [(.bool (s')), vn, vd]) rfl
 refine rV (r_loada (o := 0) (cs := [(.bool (s')), vn, vd]) uT44 ag44 ty44 rfl hc238) ?_
 replace hn := (hn.tr (Sm.ext he231)).apn hx236 nb_hx236
 replace hd := (hd.tr (Sm.ext he231)).apn hx236 nb_hx236
 refine RL.call rfl rfl dC (r_call (vl := [(.agg #[(.bool (s')), vn, vd])]) ent37 rfl) (q_sign hn lmn oS hd lmd oS (show ratOf s' (val xn) (val xd) = op p q from heq)) ?_
 rintro _ w239 ⟨rfl, he240⟩
 replace hE := hE.nx he240
 replace hJ := hJk.1 _ _ _ hJ (Sm.ext he240)
 refine rV (r_neq (k := .i64) (a := Int.sign (op p q).num) (b := 0) rfl rfl) (RL.nil ?_)
 refine wcD (p := (Int.sign (op p q).num) ≠ 0) rfl (fun hb241 hb241p => ?_) (fun hb241 hb241p => ?_)
 ·have hnz : op p q ≠ 0 := fun h => hb241p ((sign_eq _).2 h)
  have hcn := hcan hnz
  refine wregion (mV (v := vr) ((hoff221 7 rfl).trans ((hF54 7).trans ((hoff42 7 rfl).trans ((hF26 7).trans hs24)))) (mV hs222 ?_))
  replace hb232 := hb232.ext he240
  have hc242 := hb232.cells (o := 0) (cs := [(.bool (s')), vn, vd]) rfl
  refine rV (r_loada (o := 0) (cs := [(.bool (s')), vn, vd]) uT44 ag44 ty44 rfl hc242) (rV (r_build (vl := [(0, (iv i)), (1, (.agg #[(.bool (s')), vn, vd]))]) (cs := [(iv i), (.bool (s')), vn, vd]) uT55 ty55 rfl (pl55 uT55) rfl) ?_)
  refine rU (h_lit (vl := [(0, (.agg #[(iv i), (.bool (s')), vn, vd]))]) (cs := [(iv i), (.bool (s')), vn, vd]) uT22 ty55 rfl dC (by first | (simp [Instr.fill, Value.cells]; done) | rfl | kernel_rfl)) ?_
  rintro _ w243 ⟨b244, rfl, hs247, hb246, he245⟩
  have lt_b230_b244 := Nat.lt_of_lt_of_eq hb232.lt hs247.symm
  have ge_b244 := hE.ge hs247
  replace hR := ((hR.ext he231).exo hx236 on_vr_b230 nb_hx236).ext he240
  have on_vr_b244 : vr.ownBlock ≠ some b244 := fun h => absurd (hR.lt _ h) (by rw [hs247]; exact Nat.lt_irrefl _)
  replace hE := hE.nx he245
  replace hJ := hJk.1 _ _ _ hJ (Sm.ext he245)
  replace hn := hn.tr (Sm.ext (Ext.trans he240 he245))
  replace hd := hd.tr (Sm.ext (Ext.trans he240 he245))
  have hrk : Rk L2 (fun b T => w.heap.size ≤ b ∧ T = 89) w243 (s', vn, vd) (op p q) := ⟨hcn.1, by rw [← hcn.2.1]; exact hn, by rw [← hcn.2.2]; exact hd, by rw [← hcn.2.1]; exact lnn, by rw [← hcn.2.2]; exact lnd⟩
  replace hR := hR.ext he245
  refine rU (h_appendE (v1 := vr) (v2 := (.slice (some ⟨b244, 0, none⟩) (1) (1))) (q := op p q) uT22 ty55 rfl rfl rfl hR (hb246.sc (D := fun _ _ => True) trivial rfl dC) hrk (fun _ h => absurd h.2 dC) (by simp only [maxLen]; omega) oM hE.size) ?_
  rintro v249 w248 ⟨ho250, hg251⟩
  replace hE := hR.gbe hg251 hE hlo hE.size
  replace hJ := hJk.1 _ _ _ hJ (hR.gsm hg251 (fun b hb hd => hd.elim (fun h => absurd h (Nat.not_lt_of_le hb)) dC))
  refine aS (v := v249) rfl (RL.nil ?_)
  replace hA2 := ((((hA2.tr (Gro.sm hg228 hobD)).tr (Sm.ext he231)).tr (Sm.exc hx236 (fun _ _ _ _ hd => absurd hd.2 (Nat.not_lt_of_le ge_b230)))).tr (Sm.ext (Ext.trans he240 he245))).tr (hR.gsm hg251 (fun b hb hd => absurd hd.2 (Nat.not_lt_of_le (Nat.le_trans hlo hb))))
  replace hB2 := ((((hB2.tr (Gro.sm hg228 hobD)).tr (Sm.ext he231)).tr (Sm.exc hx236 (fun _ _ _ _ hd => absurd hd.2 (Nat.not_lt_of_le ge_b230)))).tr (Sm.ext (Ext.trans he240 he245))).tr (hR.gsm hg251 (fun b hb hd => absurd hd.2 (Nat.not_lt_of_le (Nat.le_trans hlo hb))))
  refine ⟨(a2, b2, (rs ++ [(i, op p q)]), ps ++ [(p, q)], va2, vb2, v249), ⟨?_, ?_, ?_, ?_, ?_, ?_, ?_, ?_, ?_, ?_, ?_, ?_, ?_⟩, ?_⟩
  · exact (by repeat (first | exact hoff21 | refine Off.st ?_ dC _ | refine Off.via hoff221 dC ?_ | refine Off.eq hF54 ?_ | refine Off.via hoff42 dC ?_ | refine Off.eq hF26 ?_))
  · refine (hs223).trans ?_
    first | rfl | exact int_eq oM | exact bool_eq (by simp)
  · refine (hs224).trans ?_
    first | rfl | exact int_eq oM | exact bool_eq (by simp)
  · first | rfl | exact int_eq oM | exact bool_eq (by simp)
  · obtain ⟨_, _, e9, _⟩ := ho250.ap (by simp); rw [e9]; simp [Value.ownBlock]
  · exact (hM.step hstp).2 hnz
  · rw [List.length_append, List.length_singleton]; have := stp_len hstp; omega
  · rw [List.length_append, List.length_singleton]; have := stp_len hstp; omega
  · exact hA2
  · exact hB2
  · exact ho250
  · exact hJ
  · exact hE
  (try dsimp only)
  have := stp_len hstp
  omega
 have hz : op p q = 0 := (sign_eq _).1 (by simpa using hb241p)
 refine wskip ?_
 replace hA2 := (((hA2.tr (Gro.sm hg228 hobD)).tr (Sm.ext he231)).tr (Sm.exc hx236 (fun _ _ _ _ hd => absurd hd.2 (Nat.not_lt_of_le ge_b230)))).tr (Sm.ext he240)
 replace hB2 := (((hB2.tr (Gro.sm hg228 hobD)).tr (Sm.ext he231)).tr (Sm.exc hx236 (fun _ _ _ _ hd => absurd hd.2 (Nat.not_lt_of_le ge_b230)))).tr (Sm.ext he240)
 replace hR := ((hR.ext he231).exo hx236 on_vr_b230 nb_hx236).ext he240
 refine ⟨(a2, b2, rs, ps ++ [(p, q)], va2, vb2, vr), ⟨?_, ?_, ?_, ?_, ?_, ?_, ?_, ?_, ?_, ?_, ?_, ?_, ?_⟩, ?_⟩
 · exact (by repeat (first | exact hoff21 | refine Off.st ?_ dC _ | refine Off.via hoff221 dC ?_ | refine Off.eq hF54 ?_ | refine Off.via hoff42 dC ?_ | refine Off.eq hF26 ?_))
 · refine (hs223).trans ?_
   first | rfl | exact int_eq oM | exact bool_eq (by simp)
 · refine (hs224).trans ?_
   first | rfl | exact int_eq oM | exact bool_eq (by simp)
 · refine (((hoff221 7 rfl).trans ((hF54 7).trans ((hoff42 7 rfl).trans ((hF26 7).trans hs24))))).trans ?_
   first | rfl | exact int_eq oM | exact bool_eq (by simp)
 · exact hnn
 · exact (hM.step hstp).1 hz
 · rw [List.length_append, List.length_singleton]; have := stp_len hstp; omega
 · have := stp_len hstp; omega
 · exact hA2
 · exact hB2
 · exact hR
 · exact hJ
 · exact hE
 (try dsimp only)
 have := stp_len hstp
 omega
end Go.Proofs.YtelbjmhhbeijkaaGreat
namespace Go.Proofs.YtelbjmhhbeijkaaGreat
open Go.Vg Go.RowKit _root_.Go.Proofs.Tryz
set_option linter.unusedVariables false
open Go.Vm
theorem j_true {TU B : Nat} : JOk TU B (fun _ _ => True) := ⟨fun _ _ _ _ _ => trivial, fun _ _ _ _ _ _ _ _ => trivial⟩
set_option maxHeartbeats 1000000 in
theorem v_norm1 {w : World} {sx : Bool} {Dx Ex : Nat → TypeId → Prop} {vx ux : Value} {x dx : List Nat} (hx : Sg (gN .u32) Dx w vx x) (lmx : Lm x) (lnx : x.length ≤ 17179869184) (hdx : Sg (gN .u32) Ex w ux dx) (lmdx : Lm dx) (lndx : dx.length ≤ 17179869184) {qx : Rat} (ex : ratOf sx (val x) (val dx) = qx) {sy : Bool} {Dy Ey : Nat → TypeId → Prop} {vy uy : Value} {y dy : List Nat} (hy : Sg (gN .u32) Dy w vy y) (lmy : Lm y) (lny : y.length ≤ 17179869184) (hdy : Sg (gN .u32) Ey w uy dy) (lmdy : Lm dy) (lndy : dy.length ≤ 17179869184) {qy : Rat} (ey : ratOf sy (val y) (val dy) = qy) :
    Calls Tryz.prog 49 #[(.agg #[(.bool sx), vx, ux]), (.agg #[(.bool sy), vy, uy])] w fun e w' => ∃ v, e = .returned v ∧ (∃ vn vd, v = .agg #[.bool (decide (qx.num < 0)), vn, vd] ∧ Sg (gN .u32) (fun b T => w.heap.size ≤ b ∧ T = 89) w' vn (digs qx.num.natAbs) ∧ Sg (gN .u32) (fun b T => w.heap.size ≤ b ∧ T = 89) w' vd (digs qx.den) ∧ (digs qx.num.natAbs).length ≤ x.length ∧ (digs qx.den).length ≤ dx.length + 1) ∧ Ext w w' := by
 have hE : Below w.heap.size w w := Below.refl _ _
 have hlqx := rl_of lmx lmdx ex
 have hdqx := den_one qx
 have hlqy := rl_of lmy lmdy ey
 have hdqy := den_one qy
 refine calls_of (n := 7) (rs := [.cell 4 44]) func49 rfl rfl rfl bL ?_
 refine wset fun F0 hF0 => ?_
 refine wsr ?_
 refine rU (h_box (vv := (.agg #[(.bool sx), vx, ux])) (cs := [(.bool sx), vx, ux]) (hF0 0) rfl) ?_
 rintro _ w1 ⟨b2, rfl, hs5, hb4, he3⟩
 have ge_b2 := hE.ge hs5
 replace hE := hE.nx he3
 refine rU (h_box (vv := (.agg #[(.bool sy), vy, uy])) (cs := [(.bool sy), vy, uy]) (hF0 1) rfl) ?_
 rintro _ w6 ⟨b7, rfl, hs10, hb9, he8⟩
 have lt_b2_b7 := Nat.lt_of_lt_of_eq hb4.lt hs10.symm
 have ge_b7 := hE.ge hs10
 replace hE := hE.nx he8
 refine rU (h_alloc (cs := [(.bool false), (.slice none 0 0), (.slice none 0 0)]) ty44 rfl) ?_
 rintro _ w11 ⟨b12, rfl, hs15, hb14, he13⟩
 have lt_b7_b12 := Nat.lt_of_lt_of_eq hb9.lt hs15.symm
 have ge_b12 := hE.ge hs15
 replace hE := hE.nx he13
 refine RL.nil (wsr ?_)
 replace hb4 := hb4.ext (Ext.trans he8 he13)
 have hc16 := hb4.cells (o := 0) (cs := [(.bool sx), vx, ux]) rfl
 refine rV (r_loada (o := 0) (cs := [(.bool sx), vx, ux]) uT44 ag44 ty44 rfl hc16) ?_
 have hm25 := Ext.trans he3 (Ext.trans he8 he13)
 replace hx := hx.tr (Sm.ext hm25)
 replace hdx := hdx.tr (Sm.ext hm25)
 refine RL.call rfl rfl dC (r_call (vl := [(.agg #[(.bool sx), vx, ux])]) ent38 rfl) (q_norm hx (by assumption) oS hdx (by assumption) oS (show ratOf sx (val x) (val dx) = qx from ex)) ?_
 rintro _ w17 ⟨⟨vn19, vd21, rfl, hn20, hd22, hl23, hl24⟩, he18⟩
 have hlv26 := den_one qx
 replace hn20 := hn20.fr hE
 replace hd22 := hd22.fr hE
 replace hE := hE.nx he18
 replace hb14 := hb14.ext he18
 refine RL.runs rfl rfl (h_store (vv := (.agg #[(bd (qx.num < 0)), vn19, vd21])) (cs := [(bd (qx.num < 0)), vn19, vd21]) (o := 0) ty44 rfl rfl rfl rfl (one_cons rfl (one_cons hn20.one (one_cons hd22.one one_nil))) hb14 bL) ?_
 rintro w27 ⟨hn28, hx29, hz30⟩
 replace hE := hE.nb hx29 ge_b12
 have nb_hx29 := (Nb.of hb14 (nu_cons rfl (nu_cons rfl (nu_cons rfl nu_nil))))
 replace hb14 : Bk w27 b12 44 [(bd (qx.num < 0)), vn19, vd21] := hn28
 refine RL.nil ?_
 refine wret ?_
 refine ⟨[(.agg #[(bd (qx.num < 0)), vn19, vd21])], ⟨⟨_, _, [(bd (qx.num < 0)), vn19, vd21], rfl, ⟨_, uT44⟩, hb14.cells rfl, .inl ⟨ag44, ⟨_, _, ty44⟩, rfl⟩⟩, trivial⟩, ?_⟩
 replace hn20 := hn20.apn hx29 nb_hx29
 replace hd22 := hd22.apn hx29 nb_hx29
 exact ⟨⟨_, _, rfl, hn20, hd22, by omega, by omega⟩, hE⟩
theorem op_norm {K L : Nat} (hL : L ≤ 8589934000) : OpOk Tryz.prog 49 [] none K L (L + 1) (fun p _ => p) (fun _ _ => True) := fun _ _ h1 m1 l1 g1 n1 k1 e1 h2 m2 l2 g2 n2 k2 e2 =>
  (v_norm1 h1 m1 oM g1 n1 oM e1 h2 m2 oM g2 n2 oM e2).mono fun _ _ ⟨v, he, ⟨vn, vd, hv, a, b, c, d⟩, hE⟩ =>
    ⟨v, he, ⟨_, vn, vd, _, _, hv, a, digs_lm _, by omega, b, digs_lm _, by omega, ratOf_canon _, fun _ => ⟨rfl, rfl, rfl⟩⟩, trivial, Gro.of_ext hE⟩
end Go.Proofs.YtelbjmhhbeijkaaGreat
namespace Go.Proofs.YtelbjmhhbeijkaaGreat
open Go.Vg Go.RowKit _root_.Go.Proofs.Tryz
set_option linter.unusedVariables false
open Go.Vm
set_option maxHeartbeats 4000000 in
theorem v_dot1 {w : World} {sx : Bool} {Dx Ex : Nat → TypeId → Prop} {vx ux : Value} {x dx : List Nat} (hx : Sg (gN .u32) Dx w vx x) (lmx : Lm x) (lnx : x.length ≤ 4294967296) (hdx : Sg (gN .u32) Ex w ux dx) (lmdx : Lm dx) (lndx : dx.length ≤ 4294967296) {qx : Rat} (ex : ratOf sx (val x) (val dx) = qx) {sy : Bool} {Dy Ey : Nat → TypeId → Prop} {vy uy : Value} {y dy : List Nat} (hy : Sg (gN .u32) Dy w vy y) (lmy : Lm y) (lny : y.length ≤ 4294967296) (hdy : Sg (gN .u32) Ey w uy dy) (lmdy : Lm dy) (lndy : dy.length ≤ 4294967296) {qy : Rat} (ey : ratOf sy (val y) (val dy) = qy) {bs : Nat} {v0 u0 : Value} {M : Nat} {q0 : Rat} (hbs : Bk w bs 44 [.bool (decide (q0.num < 0)), v0, u0]) (h0 : Sg (gN .u32) (fun _ T => T = 89) w v0 (digs q0.num.natAbs)) (hd0 : Sg (gN .u32) (fun _ T => T = 89) w u0 (digs q0.den)) (ln0 : (digs q0.num.natAbs).length ≤ M) (lnd0 : (digs q0.den).length ≤ M) (hM : M ≤ 8589934592) {L : Nat} (hLx : x.length ≤ L) (hLdx : dx.length ≤ L) (hLy : y.length ≤ L) (hLdy : dy.length ≤ L) :
    Calls Tryz.prog 45 #[(.agg #[(.bool sx), vx, ux]), (.agg #[(.bool sy), vy, uy]), (.pointer (some ⟨bs, 0, none⟩))] w fun e w' => ∃ v, e = .returned v ∧ v = .agg #[.bool false, .slice none 0 0, .slice none 0 0] ∧ (∃ vn vd, Bk w' bs 44 [.bool (decide ((q0 + qx * qy).num < 0)), vn, vd] ∧ Sg (gN .u32) (fun _ T => T = 89) w' vn (digs (q0 + qx * qy).num.natAbs) ∧ Sg (gN .u32) (fun _ T => T = 89) w' vd (digs (q0 + qx * qy).den) ∧ (digs (q0 + qx * qy).num.natAbs).length ≤ M + (2 * L + 6) ∧ (digs (q0 + qx * qy).den).length ≤ M + (2 * L + 6)) ∧ Exc bs w w' := by
 have hX : Exc bs w w := Exc.of_ext (Ext.refl _)
 have hbsl := hbs.lt
 have hlqx := rl_of lmx lmdx ex
 have hdqx := den_one qx
 have hlqy := rl_of lmy lmdy ey
 have hdqy := den_one qy
 refine calls_of (n := 20) (rs := [.cell 5 44]) func45 rfl rfl rfl bL ?_
 refine wset fun F0 hF0 => ?_
 refine wsr ?_
 refine rU (h_box (vv := (.agg #[(.bool sx), vx, ux])) (cs := [(.bool sx), vx, ux]) (hF0 0) rfl) ?_
 rintro _ w1 ⟨b2, rfl, hs5, hb4, he3⟩
 have he3z := he3.size
 replace hx := hx.tr (Sm.ext he3)
 replace hdx := hdx.tr (Sm.ext he3)
 replace hy := hy.tr (Sm.ext he3)
 replace hdy := hdy.tr (Sm.ext he3)
 replace hbs := hbs.ext he3
 replace h0 := h0.tr (Sm.ext he3)
 replace hd0 := hd0.tr (Sm.ext he3)
 replace hX := hX.trans (Exc.of_ext he3)
 have hb4l := hb4.lt
 refine rU (h_box (vv := (.agg #[(.bool sy), vy, uy])) (cs := [(.bool sy), vy, uy]) (hF0 1) rfl) ?_
 rintro _ w6 ⟨b7, rfl, hs10, hb9, he8⟩
 have he8z := he8.size
 replace hx := hx.tr (Sm.ext he8)
 replace hdx := hdx.tr (Sm.ext he8)
 replace hy := hy.tr (Sm.ext he8)
 replace hdy := hdy.tr (Sm.ext he8)
 replace hbs := hbs.ext he8
 replace h0 := h0.tr (Sm.ext he8)
 replace hd0 := hd0.tr (Sm.ext he8)
 replace hX := hX.trans (Exc.of_ext he8)
 replace hb4 := hb4.ext he8
 have hb9l := hb9.lt
 refine rU (h_alloc (cs := [(.bool false), (.slice none 0 0), (.slice none 0 0)]) ty44 rfl) ?_
 rintro _ w11 ⟨b12, rfl, hs15, hb14, he13⟩
 have he13z := he13.size
 replace hx := hx.tr (Sm.ext he13)
 replace hdx := hdx.tr (Sm.ext he13)
 replace hy := hy.tr (Sm.ext he13)
 replace hdy := hdy.tr (Sm.ext he13)
 replace hbs := hbs.ext he13
 replace h0 := h0.tr (Sm.ext he13)
 replace hd0 := hd0.tr (Sm.ext he13)
 replace hX := hX.trans (Exc.of_ext he13)
 replace hb4 := hb4.ext he13
 replace hb9 := hb9.ext he13
 have hb14l := hb14.lt
 refine RL.nil (wseq (wsr ?_))
 have hc16 := hb4.cells (o := 0) (cs := [(.bool sx), vx, ux]) rfl
 refine rV (r_loada (o := 0) (cs := [(.bool sx), vx, ux]) uT44 ag44 ty44 rfl hc16) ?_
 refine RL.call rfl rfl dC (r_call (vl := [(.agg #[(.bool sx), vx, ux])]) ent37 rfl) (q_sign hx (by assumption) oS hdx (by assumption) oS (show ratOf sx (val x) (val dx) = qx from ex)) ?_
 rintro _ w17 ⟨rfl, he18⟩
 have he18z := he18.size
 replace hx := hx.tr (Sm.ext he18)
 replace hdx := hdx.tr (Sm.ext he18)
 replace hy := hy.tr (Sm.ext he18)
 replace hdy := hdy.tr (Sm.ext he18)
 replace hbs := hbs.ext he18
 replace h0 := h0.tr (Sm.ext he18)
 replace hd0 := hd0.tr (Sm.ext he18)
 replace hX := hX.trans (Exc.of_ext he18)
 replace hb4 := hb4.ext he18
 replace hb9 := hb9.ext he18
 replace hb14 := hb14.ext he18
 refine rV (r_neq (k := .i64) (a := Int.sign qx.num) (b := 0) rfl rfl) (mV (v := (bd ((Int.sign qx.num) ≠ 0))) rfl ?_)
 rcases bD ((Int.sign qx.num) ≠ 0) with ⟨hb19, hb19p⟩ | ⟨hb19, hb19p⟩
 ·have hc20 := hb9.cells (o := 0) (cs := [(.bool sy), vy, uy]) rfl
  refine RL.gval rfl rfl (bool_eq hb19) rfl dC (r_loada (o := 0) (cs := [(.bool sy), vy, uy]) uT44 ag44 ty44 rfl hc20) ?_
  refine RL.gcall rfl rfl (bool_eq hb19) rfl dC (r_call (vl := [(.agg #[(.bool sy), vy, uy])]) ent37 rfl) (q_sign hy (by assumption) oS hdy (by assumption) oS (show ratOf sy (val y) (val dy) = qy from ey)) ?_
  rintro _ w21 ⟨rfl, he22⟩
  have he22z := he22.size
  replace hx := hx.tr (Sm.ext he22)
  replace hdx := hdx.tr (Sm.ext he22)
  replace hy := hy.tr (Sm.ext he22)
  replace hdy := hdy.tr (Sm.ext he22)
  replace hbs := hbs.ext he22
  replace h0 := h0.tr (Sm.ext he22)
  replace hd0 := hd0.tr (Sm.ext he22)
  replace hX := hX.trans (Exc.of_ext he22)
  replace hb4 := hb4.ext he22
  replace hb9 := hb9.ext he22
  replace hb14 := hb14.ext he22
  refine RL.gval rfl rfl (bool_eq hb19) rfl dC (r_neq (k := .i64) (a := Int.sign qy.num) (b := 0) rfl rfl) ?_
  refine rV (r_pick_t (v := (bd ((Int.sign qy.num) ≠ 0))) (bool_eq hb19) rfl) (RL.nil ?_)
  refine wcD (p := (Int.sign qy.num) ≠ 0) rfl (fun hb23 hb23p => ?_) (fun hb23 hb23p => ?_)
  ·refine wdraw mixed fun w24 he25 => ?_
   have he25z := he25.size
   replace hx := hx.tr (Sm.ext he25)
   replace hdx := hdx.tr (Sm.ext he25)
   replace hy := hy.tr (Sm.ext he25)
   replace hdy := hdy.tr (Sm.ext he25)
   replace hbs := hbs.ext he25
   replace h0 := h0.tr (Sm.ext he25)
   replace hd0 := hd0.tr (Sm.ext he25)
   replace hX := hX.trans (Exc.of_ext he25)
   replace hb4 := hb4.ext he25
   replace hb9 := hb9.ext he25
   replace hb14 := hb14.ext he25
   have hc26 := hbs.cells (o := 0) (cs := [(bd (q0.num < 0)), v0, u0]) rfl
   refine RA.rd 0 rfl kR rfl rfl rfl dC (Ext.refl _) (fun u hu => r_loada (o := 0) (cs := [(bd (q0.num < 0)), v0, u0]) uT44 ag44 ty44 (hF0 2) (fun j v hj => cell_ext hu (hc26 j v hj))) ?_
   have hc27 := hb4.cells (o := 0) (cs := [(.bool sx), vx, ux]) rfl
   refine RA.rd 1 rfl kR rfl rfl rfl dC (Ext.refl _) (fun u hu => r_loada (o := 0) (cs := [(.bool sx), vx, ux]) uT44 ag44 ty44 rfl (fun j v hj => cell_ext hu (hc27 j v hj))) ?_
   have hc28 := hb9.cells (o := 0) (cs := [(.bool sy), vy, uy]) rfl
   refine RA.rd 2 rfl kR rfl rfl rfl dC (Ext.refl _) (fun u hu => r_loada (o := 0) (cs := [(.bool sy), vy, uy]) uT44 ag44 ty44 rfl (fun j v hj => cell_ext hu (hc28 j v hj))) ?_
   refine RA.all [3] kR rfl ?_
   refine RS.call rfl rfl rfl dC (r_call (vl := [(.agg #[(.bool sx), vx, ux]), (.agg #[(.bool sy), vy, uy])]) ent47 rfl) (q_mul hx (by assumption) oS hdx (by assumption) oS (show ratOf sx (val x) (val dx) = qx from ex) hy (by assumption) oS hdy (by assumption) oS (show ratOf sy (val y) (val dy) = qy from ey)) ?_ RS.nil
   rintro _ w29 ⟨⟨vn31, vd33, rfl, hn32, hd34, hl35, hl36⟩, he30⟩
   refine rm he30 ?_
   have hlv37 := den_one (qx * qy)
   have he30z := he30.size
   replace hbs := hbs.ext he30
   replace h0 := h0.tr (Sm.ext he30)
   replace hd0 := hd0.tr (Sm.ext he30)
   replace hX := hX.trans (Exc.of_ext he30)
   replace hb4 := hb4.ext he30
   replace hb9 := hb9.ext he30
   replace hb14 := hb14.ext he30
   refine RA.all [4] kR rfl ?_
   refine RS.call rfl rfl rfl dC (r_call (vl := [(.agg #[(bd (q0.num < 0)), v0, u0]), (.agg #[(bd ((qx * qy).num < 0)), vn31, vd33])]) ent46 rfl) (q_add h0 (digs_lm _) oS hd0 (digs_lm _) oS (ratOf_canon _) hn32 (digs_lm _) oS hd34 (digs_lm _) oS (ratOf_canon _)) ?_ RS.nil
   rintro _ w38 ⟨⟨vn40, vd42, rfl, hn41, hd43, hl44, hl45⟩, he39⟩
   refine rm he39 ?_
   have hlv46 := den_one (q0 + (qx * qy))
   have he39z := he39.size
   replace hbs := hbs.ext he39
   replace h0 := h0.tr (Sm.ext he39)
   replace hd0 := hd0.tr (Sm.ext he39)
   replace hX := hX.trans (Exc.of_ext he39)
   replace hb4 := hb4.ext he39
   replace hb9 := hb9.ext he39
   replace hb14 := hb14.ext he39
   refine RA.all [5] kR rfl ?_
   refine RS.runs rfl rfl rfl (h_store (vv := (.agg #[(bd ((q0 + (qx * qy)).num < 0)), vn40, vd42])) (cs := [(bd ((q0 + (qx * qy)).num < 0)), vn40, vd42]) (o := 0) ty44 (hF0 2) rfl rfl rfl (one_cons rfl (one_cons hn41.one (one_cons hd43.one one_nil))) hbs bL) ?_ RS.nil
   rintro w47 ⟨hn48, hx49, hz50⟩
   refine ⟨.inr (.inl kR), ?_⟩
   have hx49z := hx49.size
   replace h0 := h0.ap hx49 hbs (nu_cons rfl (nu_cons h0.nu (nu_cons hd0.nu nu_nil)))
   replace hd0 := hd0.ap hx49 hbs (nu_cons rfl (nu_cons h0.nu (nu_cons hd0.nu nu_nil)))
   replace hX := hX.trans hx49
   replace hb4 := hb4.exc hx49 oM
   replace hb9 := hb9.exc hx49 oM
   replace hb14 := hb14.exc hx49 oM
   replace hn41 := hn41.tr (hbs.sm hx49 (by intro hd; first | omega | (have hd2 := hd.1; omega) | exact absurd hd.2 dC | exact absurd hd dC))
   replace hd43 := hd43.tr (hbs.sm hx49 (by intro hd; first | omega | (have hd2 := hd.1; omega) | exact absurd hd.2 dC | exact absurd hd dC))
   replace hbs : Bk w47 bs 44 [(bd ((q0 + (qx * qy)).num < 0)), vn40, vd42] := hn48
   refine RA.done kR ?_
   refine wsr (rV (r_build (vl := []) (cs := [(.bool false), (.slice none 0 0), (.slice none 0 0)]) uT44 ty44 rfl (pl44 uT44) rfl) ?_)
   refine RL.runs rfl rfl (h_store (vv := (.agg #[(.bool false), (.slice none 0 0), (.slice none 0 0)])) (cs := [(.bool false), (.slice none 0 0), (.slice none 0 0)]) (o := 0) ty44 rfl rfl rfl rfl (one_cons rfl (one_cons rfl (one_cons rfl one_nil))) hb14 bL) ?_
   rintro w51 ⟨hn52, hx53, hz54⟩
   have hx53z := hx53.size
   replace hbs := hbs.exc hx53 oM
   replace h0 := h0.ap hx53 hb14 (nu_cons rfl (nu_cons rfl (nu_cons rfl nu_nil)))
   replace hd0 := hd0.ap hx53 hb14 (nu_cons rfl (nu_cons rfl (nu_cons rfl nu_nil)))
   replace hX := Exc.own hX hx53 oM
   replace hb4 := hb4.exc hx53 oM
   replace hb9 := hb9.exc hx53 oM
   replace hn41 := hn41.tr (hb14.sm hx53 (by intro hd; first | omega | (have hd2 := hd.1; omega) | exact absurd hd.2 dC | exact absurd hd dC))
   replace hd43 := hd43.tr (hb14.sm hx53 (by intro hd; first | omega | (have hd2 := hd.1; omega) | exact absurd hd.2 dC | exact absurd hd dC))
   replace hb14 : Bk w51 b12 44 [(.bool false), (.slice none 0 0), (.slice none 0 0)] := hn52
   refine RL.nil ?_
   refine wret ?_
   refine ⟨[(.agg #[(.bool false), (.slice none 0 0), (.slice none 0 0)])], ⟨⟨_, _, [(.bool false), (.slice none 0 0), (.slice none 0 0)], rfl, ⟨_, uT44⟩, hb14.cells rfl, .inl ⟨ag44, ⟨_, _, ty44⟩, rfl⟩⟩, trivial⟩, ?_⟩
   have hlr := radd_len q0 (qx * qy)
   have hlm := rmul_len qx qy
   exact ⟨rfl, ⟨_, _, hbs, hn41.mono (fun _ _ h => by first | exact h | exact h.2), hd43.mono (fun _ _ h => by first | exact h | exact h.2), by omega, by omega⟩, hX⟩
  have hy0 : qy = 0 := (sign_eq qy).1 (by simpa using hb23p)
  have hpq : qx * qy = 0 := by first | (rw [hx0, Rat.zero_mul]; done) | (rw [hy0, Rat.mul_zero]; done)
  refine wskip ?_
  refine wsr (rV (r_build (vl := []) (cs := [(.bool false), (.slice none 0 0), (.slice none 0 0)]) uT44 ty44 rfl (pl44 uT44) rfl) ?_)
  refine RL.runs rfl rfl (h_store (vv := (.agg #[(.bool false), (.slice none 0 0), (.slice none 0 0)])) (cs := [(.bool false), (.slice none 0 0), (.slice none 0 0)]) (o := 0) ty44 rfl rfl rfl rfl (one_cons rfl (one_cons rfl (one_cons rfl one_nil))) hb14 bL) ?_
  rintro w55 ⟨hn56, hx57, hz58⟩
  have hx57z := hx57.size
  replace hbs := hbs.exc hx57 oM
  replace h0 := h0.ap hx57 hb14 (nu_cons rfl (nu_cons rfl (nu_cons rfl nu_nil)))
  replace hd0 := hd0.ap hx57 hb14 (nu_cons rfl (nu_cons rfl (nu_cons rfl nu_nil)))
  replace hX := Exc.own hX hx57 oM
  replace hb4 := hb4.exc hx57 oM
  replace hb9 := hb9.exc hx57 oM
  replace hb14 : Bk w55 b12 44 [(.bool false), (.slice none 0 0), (.slice none 0 0)] := hn56
  refine RL.nil ?_
  refine wret ?_
  refine ⟨[(.agg #[(.bool false), (.slice none 0 0), (.slice none 0 0)])], ⟨⟨_, _, [(.bool false), (.slice none 0 0), (.slice none 0 0)], rfl, ⟨_, uT44⟩, hb14.cells rfl, .inl ⟨ag44, ⟨_, _, ty44⟩, rfl⟩⟩, trivial⟩, ?_⟩
  rw [hpq, Rat.add_zero]
  exact ⟨rfl, ⟨_, _, hbs, h0.mono (fun _ _ h => by first | exact h | exact h.2), hd0.mono (fun _ _ h => by first | exact h | exact h.2), by omega, by omega⟩, hX⟩
 have hx0 : qx = 0 := (sign_eq qx).1 (by simpa using hb19p)
 have hpq : qx * qy = 0 := by first | (rw [hx0, Rat.zero_mul]; done) | (rw [hy0, Rat.mul_zero]; done)
 refine RL.gno rfl rfl (bool_eq hb19) rfl dC ?_
 refine RL.gno rfl rfl (bool_eq hb19) rfl dC ?_
 refine RL.gno rfl rfl (bool_eq hb19) rfl dC ?_
 refine rV (r_pick_f (v := (.bool false)) (bool_eq hb19) rfl) (RL.nil ?_)
 refine wcond_f rfl ?_
 refine wskip ?_
 refine wsr (rV (r_build (vl := []) (cs := [(.bool false), (.slice none 0 0), (.slice none 0 0)]) uT44 ty44 rfl (pl44 uT44) rfl) ?_)
 refine RL.runs rfl rfl (h_store (vv := (.agg #[(.bool false), (.slice none 0 0), (.slice none 0 0)])) (cs := [(.bool false), (.slice none 0 0), (.slice none 0 0)]) (o := 0) ty44 rfl rfl rfl rfl (one_cons rfl (one_cons rfl (one_cons rfl one_nil))) hb14 bL) ?_
 rintro w59 ⟨hn60, hx61, hz62⟩
 have hx61z := hx61.size
 replace hbs := hbs.exc hx61 oM
 replace h0 := h0.ap hx61 hb14 (nu_cons rfl (nu_cons rfl (nu_cons rfl nu_nil)))
 replace hd0 := hd0.ap hx61 hb14 (nu_cons rfl (nu_cons rfl (nu_cons rfl nu_nil)))
 replace hX := Exc.own hX hx61 oM
 replace hb4 := hb4.exc hx61 oM
 replace hb9 := hb9.exc hx61 oM
 replace hb14 : Bk w59 b12 44 [(.bool false), (.slice none 0 0), (.slice none 0 0)] := hn60
 refine RL.nil ?_
 refine wret ?_
 refine ⟨[(.agg #[(.bool false), (.slice none 0 0), (.slice none 0 0)])], ⟨⟨_, _, [(.bool false), (.slice none 0 0), (.slice none 0 0)], rfl, ⟨_, uT44⟩, hb14.cells rfl, .inl ⟨ag44, ⟨_, _, ty44⟩, rfl⟩⟩, trivial⟩, ?_⟩
 rw [hpq, Rat.add_zero]
 exact ⟨rfl, ⟨_, _, hbs, h0.mono (fun _ _ h => by first | exact h | exact h.2), hd0.mono (fun _ _ h => by first | exact h | exact h.2), by omega, by omega⟩, hX⟩
def JD (b5 L : Nat) : List (Rat × Rat) → World → Prop := fun ps w => ∃ v u, Bk w b5 44 [.bool (decide ((sumP ps).num < 0)), v, u] ∧ Rk (2 + ps.length * (2 * L + 6)) (fun _ T => T = 89) w (decide ((sumP ps).num < 0), v, u) (sumP ps)
theorem jd_ok {b5 L B : Nat} (hb : b5 < B) : JOk 89 B (JD b5 L) :=
  ⟨fun _ _ _ h hs => by obtain ⟨v, u, h1, h2⟩ := h; exact ⟨v, u, hs _ _ _ _ h1 (.inl hb), h2.tr (fun b cs T fz hh hd => hs b cs T fz hh (.inr hd))⟩, fun _ _ _ _ h e hn hB => by obtain ⟨v, u, h1, h2⟩ := h; exact ⟨v, u, h1.exc e oM, h2.apn e hn⟩⟩
theorem op_dot {K L b5 : Nat} (hL : L ≤ 4294967296) (hK : 2 + K * (2 * L + 6) ≤ 8589934592) : OpOk Tryz.prog 45 [.pointer (some ⟨b5, 0, none⟩)] (some b5) K L 0 (fun _ _ => 0) (JD b5 L) := fun hps hJ h1 m1 l1 g1 n1 k1 e1 h2 m2 l2 g2 n2 k2 e2 => by
  obtain ⟨v, u, hb, _, r1, r2, r3, r4⟩ := hJ
  have hb1 := Nat.mul_le_mul_right (2 * L + 6) (Nat.le_of_lt hps)
  refine (v_dot1 h1 m1 oM g1 n1 oM e1 h2 m2 oM g2 n2 oM e2 hb r1 r2 r3 r4 oM l1 k1 l2 k2).mono ?_
  rintro _ _ ⟨vv, he, hv, ⟨vn, vd, a1, a2, a3, a4, a5⟩, hX⟩
  refine ⟨vv, he, ⟨false, _, _, [], [], hv, Sg.nil, Lm.nil, Nat.zero_le _, Sg.nil, Lm.nil, Nat.zero_le _, rfl, fun h => absurd rfl h⟩, ⟨vn, vd, ?_⟩, Gro.of_exc hX⟩
  rw [sumP_snoc, List.length_append, List.length_singleton, Nat.succ_mul, ← Nat.add_assoc]
  exact ⟨a1, rfl, a2, a3, a4, a5⟩
end Go.Proofs.YtelbjmhhbeijkaaGreat
namespace Go.Proofs.YtelbjmhhbeijkaaGreat
open Go.Vg Go.RowKit _root_.Go.Proofs.Tryz
set_option linter.unusedVariables false
open Go.Vm
set_option maxHeartbeats 1000000 in
theorem v_norm {w : World} {L : Nat} {Dx : Nat → TypeId → Prop} {vx : Value} {x : List Ent'} (hx0 : Es L Dx w vx x) {M : Nat} (hfx : (Asc x ∧ L ≤ M) ∨ (x.length + 1) * (L + 3) ≤ M) (hlx : x.length ≤ 524288) (hM : M ≤ 8589934000) :
    Calls Tryz.prog 28 #[vx] w fun e w' => ∃ v, e = .returned v ∧ (∃ rs, Oe (M + 1) (fun b T => w.heap.size ≤ b ∧ T = 89) w' w.heap.size 55 v rs ∧ Asc rs ∧ NonZ rs ∧ (∀ i, get rs i = get x i) ∧ rs.length ≤ x.length ∧ v.ownBlock ≠ none) ∧ Ext w w' := by
 have hE : Below w.heap.size w w := Below.refl _ _
 have hx := hx0.old
 clear hx0
 refine calls_of (n := 6) (rs := [.tmp 2]) func28 rfl rfl rfl bL ?_
 refine wset fun F0 hF0 => ?_
 refine wsr (aS (v := (.slice none (0) (0))) rfl (RL.nil (wsr (mV (v := vx) (hF0 0) ?_))))
 refine cL ent44 (v_arrange (es := x) (M := M) hx hfx oM) rfl ?_
 rintro va4 w1 ⟨⟨esar3, hrar3, haar3, hgar3, hlar3⟩, he2⟩
 replace hE := hE.nx he2
 refine RL.call rfl rfl dC (r_call (vl := [va4, (.slice none (0) (0)), (.func (.func 49) #[] #[])]) ent43 rfl) (v_merge (L := M) (D := (fun _ _ => True)) ((hrar3.mono (fun _ _ _ => trivial)).wide oM) Es.nil haar3 List.Pairwise.nil ent49 (op_norm oM) (Nat.le_refl _) (j_true) (trivial) (fun k h => by cases h) (fun k T h => by cases h) oM (Nat.zero_le _) oM oM) ?_
 rintro vm8 w5 ⟨⟨rs9, ps10, ho11, hm12, hj13, hl14, hp15, hw16⟩, hg6⟩
 replace ho11 := Oe.fr (D' := (fun b T => w.heap.size ≤ b ∧ T = 89)) (lo' := w.heap.size) ho11 hE.size (fun _ _ h => ⟨Nat.le_trans hE.size h.1, h.2⟩)
 have he7 := hg6.ext
 replace hE := hE.nx he7
 refine aS (v := vm8) rfl (RL.nil ?_)
 refine wret ?_
 refine ⟨[vm8], ⟨rfl, trivial⟩, ?_⟩
 obtain ⟨f1, f2, f3⟩ := hm12.fin rfl
 exact ⟨⟨rs9, ho11, f1, f2, fun i => (f3 i).trans (by show get _ i = _; rw [hgar3 i]), by first | omega | (simp only [List.length_nil] at *; omega), hw16⟩, hE⟩
set_option maxHeartbeats 1000000 in
theorem v_dot {w : World} {Lx : Nat} {Dx : Nat → TypeId → Prop} {vx : Value} {x : List Ent'} (hx0 : Es Lx Dx w vx x) {Ly : Nat} {Dy : Nat → TypeId → Prop} {vy : Value} {y : List Ent'} (hy0 : Es Ly Dy w vy y) {M : Nat} (hfx : (Asc x ∧ Lx ≤ M) ∨ (x.length + 1) * (Lx + 3) ≤ M) (hlx : x.length ≤ 40) (hfy : (Asc y ∧ Ly ≤ M) ∨ (y.length + 1) * (Ly + 3) ≤ M) (hly : y.length ≤ 40) (hM : M ≤ 53687088) :
    Calls Tryz.prog 18 #[vx, vy] w fun e w' => ∃ v, e = .returned v ∧ (∃ vn vd, v = .agg #[.bool (decide ((dtF x y).num < 0)), vn, vd] ∧ Sg (gN .u32) (fun _ T => T = 89) w' vn (digs (dtF x y).num.natAbs) ∧ Sg (gN .u32) (fun _ T => T = 89) w' vd (digs (dtF x y).den) ∧ (digs (dtF x y).num.natAbs).length ≤ 8589934592 ∧ (digs (dtF x y).den).length ≤ 8589934592) ∧ Ext w w' := by
 have hE : Below w.heap.size w w := Below.refl _ _
 have hx := hx0.old
 clear hx0
 have hy := hy0.old
 clear hy0
 refine calls_of (n := 14) (rs := [.cell 4 44]) func18 rfl rfl rfl bL ?_
 refine wset fun F0 hF0 => ?_
 refine wsr ?_
 refine rU (h_alloc (cs := [(.bool false), (.slice none 0 0), (.slice none 0 0)]) ty44 rfl) ?_
 rintro _ w1 ⟨b2, rfl, hs5, hb4, he3⟩
 have ge_b2 := hE.ge hs5
 replace hE := hE.nx he3
 refine RL.nil (wsr ?_)
 refine cL ent42 (q_from oM) rfl ?_
 rintro _ w6 ⟨⟨vn8, vd10, rfl, hn9, hd11, hl12, hl13⟩, he7⟩
 have hlv14 := den_one ((0 : Int) : Rat)
 replace hn9 := hn9.fr hE
 replace hd11 := hd11.fr hE
 replace hE := hE.nx he7
 refine rU (h_alloc (cs := [(.bool false), (.slice none 0 0), (.slice none 0 0)]) ty44 rfl) ?_
 rintro _ w15 ⟨b16, rfl, hs19, hb18, he17⟩
 replace hb4 := hb4.ext he7
 have lt_b2_b16 := Nat.lt_of_lt_of_eq hb4.lt hs19.symm
 have ge_b16 := hE.ge hs19
 replace hE := hE.nx he17
 refine RL.runs rfl rfl (h_store (vv := (.agg #[(bd (((0 : Int) : Rat).num < 0)), vn8, vd10])) (cs := [(bd (((0 : Int) : Rat).num < 0)), vn8, vd10]) (o := 0) ty44 rfl rfl rfl rfl (one_cons rfl (one_cons hn9.one (one_cons hd11.one one_nil))) hb18 bL) ?_
 rintro w20 ⟨hn21, hx22, hz23⟩
 replace hE := hE.nb hx22 ge_b16
 have nb_hx22 := (Nb.of hb18 (nu_cons rfl (nu_cons rfl (nu_cons rfl nu_nil))))
 replace hb18 : Bk w20 b16 44 [(bd (((0 : Int) : Rat).num < 0)), vn8, vd10] := hn21
 refine RL.nil (wsr (mV (v := vx) (hF0 0) ?_))
 have ltDx := hb18.lt
 have hm28 := Ext.trans he3 (Ext.trans he7 he17)
 replace hx := (hx.tr (Sm.ext hm28)).tr (Sm.exc hx22 (fun _ _ _ _ hd => absurd hd.2 (Nat.not_lt_of_le ge_b16)))
 refine cL ent44 (v_arrange (es := x) (M := M) hx hfx oM) rfl ?_
 rintro va27 w24 ⟨⟨esar26, hrar26, haar26, hgar26, hlar26⟩, he25⟩
 replace hE := hE.nx he25
 refine mV (v := vy) (hF0 1) ?_
 replace hb18 := hb18.ext he25
 have ltDy := hb18.lt
 replace hy := ((hy.tr (Sm.ext hm28)).tr (Sm.exc hx22 (fun _ _ _ _ hd => absurd hd.2 (Nat.not_lt_of_le ge_b16)))).tr (Sm.ext he25)
 refine cL ent44 (v_arrange (es := y) (M := M) hy hfy oM) rfl ?_
 rintro va32 w29 ⟨⟨esar31, hrar31, haar31, hgar31, hlar31⟩, he30⟩
 replace hE := hE.nx he30
 refine rV (r_makeFunc (vl := [(.pointer (some ⟨b16, 0, none⟩))]) rfl) ?_
 replace hrar26 := hrar26.tr (Sm.ext he30)
 replace hb18 := hb18.ext he30
 replace hn9 := ((hn9.tr (Sm.ext he17)).apn hx22 nb_hx22).tr (Sm.ext (Ext.trans he25 he30))
 replace hd11 := ((hd11.tr (Sm.ext he17)).apn hx22 nb_hx22).tr (Sm.ext (Ext.trans he25 he30))
 refine RL.call rfl rfl dC (r_call (vl := [va27, va32, (.func (.func 45) #[] #[(.pointer (some ⟨b16, 0, none⟩))])]) ent43 rfl) (v_merge (L := M) (D := (fun b _ => b ≠ b16)) ((hrar26.mono (fun b T h he => by subst he; rcases h with h | h; exact absurd h.1.2 (Nat.not_lt_of_le ge_b16); exact absurd ltDx (Nat.not_lt_of_le h.1))).wide oM) ((hrar31.mono (fun b T h he => by subst he; rcases h with h | h; exact absurd h.1.2 (Nat.not_lt_of_le ge_b16); exact absurd ltDy (Nat.not_lt_of_le h.1))).wide oM) haar26 haar31 ent45 (op_dot (K := 80) (b5 := b16) oM oM) oM (jd_ok hb18.lt) (⟨_, _, hb18, rfl, hn9.mono (fun _ _ h => h.2), hd11.mono (fun _ _ h => h.2), Nat.zero_le _, Nat.le_trans (show (digs (sumP []).den).length ≤ 2 from Nat.le_succ 1) (Nat.le_add_right _ _)⟩) (fun k h => by cases h; exact hb18.lt) (fun k T h hd => by cases h; exact hd rfl) oM oM oM oM) ?_
 rintro vm36 w33 ⟨⟨rs37, ps38, ho39, hm40, hj41, hl42, hp43, hw44⟩, hg34⟩
 replace ho39 := Oe.fr (D' := (fun b T => w.heap.size ≤ b ∧ T = 89)) (lo' := w.heap.size) ho39 hE.size (fun _ _ h => ⟨Nat.le_trans hE.size h.1, h.2⟩)
 have he35 := hg34.exc
 replace hE := hE.nb he35 ge_b16
 have nb_he35 := (Nb.of hb18 (nu_cons rfl (nu_cons hn9.nu (nu_cons hd11.nu nu_nil))))
 obtain ⟨vD, uD, hbD, _, hxD, hdD, lnD, ldD⟩ := hj41
 have hsum : sumP ps38 = dtF esar26 esar31 := hm40.sum
 rw [hsum] at hbD hxD hdD lnD ldD
 replace hb18 := hbD
 have hpm := Nat.mul_le_mul_right (2 * M + 6) (show ps38.length ≤ 80 by omega)
 refine RL.nil (wsr ?_)
 have hc45 := hb18.cells (o := 0) (cs := [(bd ((dtF esar26 esar31).num < 0)), vD, uD]) rfl
 refine rV (r_loada (o := 0) (cs := [(bd ((dtF esar26 esar31).num < 0)), vD, uD]) uT44 ag44 ty44 rfl hc45) ?_
 replace hb4 := (((hb4.ext he17).exc hx22 (Nat.ne_of_lt lt_b2_b16)).ext (Ext.trans he25 he30)).exc he35 (Nat.ne_of_lt lt_b2_b16)
 refine RL.runs rfl rfl (h_store (vv := (.agg #[(bd ((dtF esar26 esar31).num < 0)), vD, uD])) (cs := [(bd ((dtF esar26 esar31).num < 0)), vD, uD]) (o := 0) ty44 rfl rfl rfl rfl (one_cons rfl (one_cons hxD.one (one_cons hdD.one one_nil))) hb4 bL) ?_
 rintro w46 ⟨hn47, hx48, hz49⟩
 replace hE := hE.nb hx48 ge_b2
 have nb_hx48 := (Nb.of hb4 (nu_cons rfl (nu_cons rfl (nu_cons rfl nu_nil))))
 replace hb4 : Bk w46 b2 44 [(bd ((dtF esar26 esar31).num < 0)), vD, uD] := hn47
 refine RL.nil ?_
 refine wret ?_
 refine ⟨[(.agg #[(bd ((dtF esar26 esar31).num < 0)), vD, uD])], ⟨⟨_, _, [(bd ((dtF esar26 esar31).num < 0)), vD, uD], rfl, ⟨_, uT44⟩, hb4.cells rfl, .inl ⟨ag44, ⟨_, _, ty44⟩, rfl⟩⟩, trivial⟩, ?_⟩
 have hq : dtF esar26 esar31 = dtF x y := dtF_ext hgar26 hgar31
 replace hxD := hxD.apn hx48 nb_hx48
 replace hdD := hdD.apn hx48 nb_hx48
 rw [hq] at hxD hdD lnD ldD
 exact ⟨⟨_, _, agg3 (by rw [hq]), hxD, hdD, by omega, by omega⟩, hE⟩
end Go.Proofs.YtelbjmhhbeijkaaGreat
namespace Go.Proofs.YtelbjmhhbeijkaaGreat
open Go.Vg Go.RowKit _root_.Go.Proofs.Tryz
set_option linter.unusedVariables false
open Go.Vm
set_option maxHeartbeats 1000000 in
theorem r02_eqt {w : World} {sx : Bool} {Dx Dy : Nat → TypeId → Prop} {vx vy : Value} {x : List Nat} (hx : Sg (gN .u32) Dx w vx x) (hy : Sg (gN .u32) Dy w vy x) :
    Calls Tryz.prog 40 #[(.agg #[(.bool sx), vx]), (.agg #[(.bool sx), vy])] w fun e w' => ∃ v, e = .returned v ∧ v = .bool true ∧ Ext w w' := by
 have hE : Below w.heap.size w w := Below.refl _ _
 refine calls_of (n := 17) (rs := [.tmp 4]) func40 rfl rfl rfl bL ?_
 refine wset fun F0 hF0 => ?_
 refine wsr ?_
 refine rU (h_box (vv := (.agg #[(.bool sx), vx])) (cs := [(.bool sx), vx]) (hF0 0) rfl) ?_
 rintro _ w1 ⟨b2, rfl, hs5, hb4, he3⟩
 have ge_b2 := hE.ge hs5
 replace hE := hE.nx he3
 refine rU (h_box (vv := (.agg #[(.bool sx), vy])) (cs := [(.bool sx), vy]) (hF0 1) rfl) ?_
 rintro _ w6 ⟨b7, rfl, hs10, hb9, he8⟩
 have lt_b2_b7 := Nat.lt_of_lt_of_eq hb4.lt hs10.symm
 have ge_b7 := hE.ge hs10
 replace hE := hE.nx he8
 refine aS (v := (.bool false)) rfl (RL.nil (wsr (rV (r_fieldAddr uT42 rfl ty4 rfl) ?_)))
 replace hb4 := hb4.ext he8
 have hc11 := hb4.cell (j := 0) (u := (.bool sx)) rfl
 refine rV (r_load uT4 ag4 rfl hc11) (rV (r_fieldAddr uT42 rfl ty4 rfl) ?_)
 have hc12 := hb9.cell (j := 0) (u := (.bool sx)) rfl
 refine rV (r_load uT4 ag4 rfl hc12) (rV (r_eqlb uT4 rfl rfl) (mV (v := (.bool (sx == sx))) rfl ?_))
 rcases Bool.eq_false_or_eq_true (sx == sx) with hb13 | hb13
 ·have hb13p := hb13
  refine RL.gval rfl rfl (bool_eq hb13) rfl dC (r_fieldAddr uT42 rfl ty40 rfl) ?_
  have hc14 := hb4.cell (j := 1) (u := vx) rfl
  refine RL.gval rfl rfl (bool_eq hb13) rfl dC (r_load uT40 ag40 rfl hc14) ?_
  refine RL.gval rfl rfl (bool_eq hb13) rfl dC (r_fieldAddr uT42 rfl ty40 rfl) ?_
  have hc15 := hb9.cell (j := 1) (u := vy) rfl
  refine RL.gval rfl rfl (bool_eq hb13) rfl dC (r_load uT40 ag40 rfl hc15) ?_
  replace hx := hx.tr (Sm.ext (Ext.trans he3 he8))
  replace hy := hy.tr (Sm.ext (Ext.trans he3 he8))
  refine RL.gcall rfl rfl (bool_eq hb13) rfl dC (r_call (vl := [vx, vy]) ent41 rfl) (r01_equal hx hy) ?_
  rintro _ w16 ⟨rfl, he17⟩
  replace hE := hE.nx he17
  refine rV (r_pick_t (v := (bd (x = x))) (bool_eq hb13) rfl) (aS (v := (bd (x = x))) rfl (RL.nil ?_))
  refine wret ?_
  refine ⟨[(bd (x = x))], ⟨rfl, trivial⟩, ?_⟩
  exact ⟨bool_eq (decide_eq_true rfl), hE⟩
 have hb13p := hb13
 exact absurd hb13p (by simp)
set_option maxHeartbeats 1000000 in
theorem r03_eqt {w : World} {q : Rat} {Dx : Nat → TypeId → Prop} {vx ux : Value} (hx : Sg (gN .u32) Dx w vx (digs q.num.natAbs)) (hdx : Sg (gN .u32) Dx w ux (digs q.den)) {Dy : Nat → TypeId → Prop} {vy uy : Value} (hy : Sg (gN .u32) Dy w vy (digs q.num.natAbs)) (hdy : Sg (gN .u32) Dy w uy (digs q.den)) :
    Calls Tryz.prog 17 #[(.agg #[(bd (q.num < 0)), vx, ux]), (.agg #[(bd (q.num < 0)), vy, uy])] w fun e w' => ∃ v, e = .returned v ∧ v = .bool true ∧ Ext w w' := by
 have hE : Below w.heap.size w w := Below.refl _ _
 refine calls_of (n := 17) (rs := [.tmp 4]) func17 rfl rfl rfl bL ?_
 refine wset fun F0 hF0 => ?_
 refine wsr ?_
 refine rU (h_box (vv := (.agg #[(bd (q.num < 0)), vx, ux])) (cs := [(bd (q.num < 0)), vx, ux]) (hF0 0) rfl) ?_
 rintro _ w1 ⟨b2, rfl, hs5, hb4, he3⟩
 have ge_b2 := hE.ge hs5
 replace hE := hE.nx he3
 refine rU (h_box (vv := (.agg #[(bd (q.num < 0)), vy, uy])) (cs := [(bd (q.num < 0)), vy, uy]) (hF0 1) rfl) ?_
 rintro _ w6 ⟨b7, rfl, hs10, hb9, he8⟩
 have lt_b2_b7 := Nat.lt_of_lt_of_eq hb4.lt hs10.symm
 have ge_b7 := hE.ge hs10
 replace hE := hE.nx he8
 refine aS (v := (.bool false)) rfl (RL.nil (wsr (rV (r_fieldAddr uT44 rfl ty42 rfl) ?_)))
 replace hb4 := hb4.ext he8
 have hc11 := hb4.cells (o := 0) (cs := [(bd (q.num < 0)), vx]) rfl
 refine rV (r_loada (o := 0) (cs := [(bd (q.num < 0)), vx]) uT42 ag42 ty42 rfl hc11) (rV (r_fieldAddr uT44 rfl ty42 rfl) ?_)
 have hc12 := hb9.cells (o := 0) (cs := [(bd (q.num < 0)), vy]) rfl
 refine rV (r_loada (o := 0) (cs := [(bd (q.num < 0)), vy]) uT42 ag42 ty42 rfl hc12) ?_
 replace hx := hx.tr (Sm.ext (Ext.trans he3 he8))
 replace hy := hy.tr (Sm.ext (Ext.trans he3 he8))
 refine RL.call rfl rfl dC (r_call (vl := [(.agg #[(bd (q.num < 0)), vx]), (.agg #[(bd (q.num < 0)), vy])]) ent40 rfl) (r02_eqt hx hy) ?_
 rintro _ w13 ⟨rfl, he14⟩
 replace hE := hE.nx he14
 refine mV (v := (.bool true)) rfl ?_
 refine RL.gval rfl rfl rfl rfl dC (r_fieldAddr uT44 rfl ty40 rfl) ?_
 replace hb4 := hb4.ext he14
 have hc15 := hb4.cell (j := 2) (u := ux) rfl
 refine RL.gval rfl rfl rfl rfl dC (r_load uT40 ag40 rfl hc15) ?_
 refine RL.gval rfl rfl rfl rfl dC (r_fieldAddr uT44 rfl ty40 rfl) ?_
 replace hb9 := hb9.ext he14
 have hc16 := hb9.cell (j := 2) (u := uy) rfl
 refine RL.gval rfl rfl rfl rfl dC (r_load uT40 ag40 rfl hc16) ?_
 have hm19 := Ext.trans he3 (Ext.trans he8 he14)
 replace hdx := hdx.tr (Sm.ext hm19)
 replace hdy := hdy.tr (Sm.ext hm19)
 refine RL.gcall rfl rfl rfl rfl dC (r_call (vl := [ux, uy]) ent41 rfl) (r01_equal hdx hdy) ?_
 rintro _ w17 ⟨rfl, he18⟩
 replace hE := hE.nx he18
 refine rV (r_pick_t (v := (bd ((digs q.den) = (digs q.den)))) rfl rfl) (aS (v := (bd ((digs q.den) = (digs q.den)))) rfl (RL.nil ?_))
 refine wret ?_
 refine ⟨[(bd ((digs q.den) = (digs q.den)))], ⟨rfl, trivial⟩, ?_⟩
 exact ⟨bool_eq (decide_eq_true rfl), hE⟩
set_option maxHeartbeats 1000000 in
theorem r03_cant {w : World} {q : Rat} {Dx : Nat → TypeId → Prop} {vx ux : Value} (hx : Sg (gN .u32) Dx w vx (digs q.num.natAbs)) (hdx : Sg (gN .u32) Dx w ux (digs q.den)) (ln : (digs q.num.natAbs).length ≤ 17179869184) (ld : (digs q.den).length ≤ 17179869184) :
    Calls Tryz.prog 34 #[(.agg #[(bd (q.num < 0)), vx, ux])] w fun e w' => ∃ v, e = .returned v ∧ v = .bool true ∧ Ext w w' := by
 have hE : Below w.heap.size w w := Below.refl _ _
 refine calls_of (n := 7) (rs := [.tmp 2]) func34 rfl rfl rfl bL ?_
 refine wset fun F0 hF0 => ?_
 refine wsr ?_
 refine rU (h_box (vv := (.agg #[(bd (q.num < 0)), vx, ux])) (cs := [(bd (q.num < 0)), vx, ux]) (hF0 0) rfl) ?_
 rintro _ w1 ⟨b2, rfl, hs5, hb4, he3⟩
 have ge_b2 := hE.ge hs5
 replace hE := hE.nx he3
 refine aS (v := (.bool false)) rfl (RL.nil (wseq ?_))
 refine wdraw mixed fun w6 he7 => ?_
 replace hE := hE.nx he7
 replace hb4 := hb4.ext he7
 have hc8 := hb4.cells (o := 0) (cs := [(bd (q.num < 0)), vx, ux]) rfl
 refine RA.rd 0 rfl kR rfl rfl rfl dC (Ext.refl _) (fun u hu => r_loada (o := 0) (cs := [(bd (q.num < 0)), vx, ux]) uT44 ag44 ty44 rfl (fun j v hj => cell_ext hu (hc8 j v hj))) ?_
 have hc9 := hb4.cells (o := 0) (cs := [(bd (q.num < 0)), vx, ux]) rfl
 refine RA.rd 1 rfl kR rfl rfl rfl dC (Ext.refl _) (fun u hu => r_loada (o := 0) (cs := [(bd (q.num < 0)), vx, ux]) uT44 ag44 ty44 rfl (fun j v hj => cell_ext hu (hc9 j v hj))) ?_
 refine RA.all [2] kR rfl ?_
 replace hx := hx.tr (Sm.ext (Ext.trans he3 he7))
 replace hdx := hdx.tr (Sm.ext (Ext.trans he3 he7))
 refine RS.call rfl rfl rfl dC (r_call (vl := [(.agg #[(bd (q.num < 0)), vx, ux])]) ent48 rfl) (r03_norm hx (digs_lm _) oS hdx (digs_lm _) oS (ratOf_canon _)) ?_ RS.nil
 rintro _ w10 ⟨⟨vn12, vd14, rfl, hn13, hd15, hl16, hl17⟩, he11⟩
 refine rm he11 ?_
 have hlv18 := den_one q
 replace hn13 := hn13.fr hE
 replace hd15 := hd15.fr hE
 replace hE := hE.nx he11
 refine RA.all [3] kR rfl ?_
 replace hx := hx.tr (Sm.ext he11)
 replace hdx := hdx.tr (Sm.ext he11)
 refine RS.call rfl rfl rfl dC (r_call (vl := [(.agg #[(bd (q.num < 0)), vx, ux]), (.agg #[(bd (q.num < 0)), vn12, vd14])]) ent17 rfl) (r03_eqt hx hdx hn13 hd15) ?_ RS.nil
 rintro _ w19 ⟨rfl, he20⟩
 refine rm he20 ?_
 replace hE := hE.nx he20
 refine ra 4 rfl (fun _ => r_assign_as (v := (.bool true)) rfl) ?_
 refine RA.done kR ?_
 refine wret ?_
 refine ⟨[(.bool true)], ⟨rfl, trivial⟩, ?_⟩
 exact ⟨rfl, hE⟩
set_option maxHeartbeats 4000000 in
theorem r06_ident {w : World} {L : Nat} {Dx Dy : Nat → TypeId → Prop} {vx vy : Value} {es : List Ent'} (hx0 : Ec L Dx w vx es) (hy0 : Ec L Dy w vy es) (hL : L ≤ 17179869184) :
    Calls Tryz.prog 13 #[vx, vy] w fun e w' => ∃ v, e = .returned v ∧ v = .bool true ∧ Ext w w' := by
 have hE : Below w.heap.size w w := Below.refl _ _
 have hx := hx0
 have hy := hy0
 clear hx0 hy0
 refine calls_of (n := 51) (rs := [.tmp 4]) func13 rfl rfl rfl bL ?_
 refine wset fun F0 hF0 => ?_
 refine wsr (aS (v := (.bool false)) rfl (RL.nil (wseq (wsr (mV (v := vx) (hF0 0) ?_)))))
 obtain ⟨A1, c2, hv3, hc4, hc5⟩ := hx.len
 refine rV (r_len uT22 hv3) (mV (v := vy) (hF0 1) ?_)
 obtain ⟨A6, c7, hv8, hc9, hc10⟩ := hy.len
 refine rV (r_len uT22 hv8) (rV (r_neq (k := .i64) (a := ((es.length : Nat) : Int)) (b := ((es.length : Nat) : Int)) rfl rfl) (RL.nil ?_))
 refine wcD (p := ((es.length : Nat) : Int) ≠ ((es.length : Nat) : Int)) rfl (fun hb11 hb11p => ?_) (fun hb11 hb11p => ?_)
 ·exact absurd rfl hb11p
 refine wskip ?_
 refine wseq (wsr (aS (v := (iv 0)) rfl (RL.nil ?_)))
 refine wblock ?_
 refine wset fun F12 hF13 => ?_
 refine wloop (σ := Nat) (fun (k : Nat) fl wl => Off (rg 4 2 (rg 11 40 [])) F12 fl ∧ fl 5 = (iv k) ∧ (k ≤ es.length) ∧ (Ec L Dx wl vx es) ∧ (Ec L Dy wl vy es) ∧ (Below w.heap.size w wl)) (fun (k : Nat) => es.length - k) (0) ?_ ?_
 ·exact ⟨Off.refl _ _, (hF13 5).trans (rfl), Nat.zero_le _, hx, hy, hE⟩
 clear hx hy hE
 rintro k f14 w15 ⟨hoff16, hs17, hk, hx, hy, hE⟩
 refine wseq (wsr (mV hs17 (mV (v := vx) ((hoff16 0 rfl).trans ((hF13 0).trans (hF0 0))) (rV (r_len uT22 hv3) (rV (r_lss (k := .i64) (a := (k : Int)) (b := ((es.length : Nat) : Int)) rfl rfl) (RL.nil ?_))))))
 refine wcD (p := (k : Int) < ((es.length : Nat) : Int)) rfl (fun hb18 hb18p => ?_) (fun hb18 hb18p => ?_)
 ·refine wskip ?_
  refine wseq ?_
  refine wblock ?_
  refine wseq ?_
  refine wdraw mixed fun w19 he20 => ?_
  replace hE := hE.nx he20
  refine ra 0 rfl (fun _ => r_move_as (v := vx) ((hoff16 0 rfl).trans ((hF13 0).trans (hF0 0)))) ?_
  refine ra 1 rfl (fun _ => r_move_as (v := (iv k)) hs17) ?_
  replace hx := hx.tr (Sm.ext he20)
  obtain ⟨b21, o22, c23, A26, B27, hv24, hc25, hx28, hd29, ln30, ln31⟩ := hx.ix (i := (k : Int)) (k) oM oM
  refine ra 2 rfl (fun _ => r_indexAddr (i := (k : Int)) uT22 ty55 hv24 rfl oM oM) ?_
  refine ra 3 rfl (fun _ => r_fieldAddr uT55 rfl ty3 rfl) ?_
  refine RA.rd 4 rfl kR rfl rfl rfl dC (Ext.refl _) (fun u hu => r_load (v := (iv ((es.getD (k) default).1))) uT3 ag3 rfl (cell_ext hu (hc25 0 _ rfl))) ?_
  refine ra 5 rfl (fun _ => r_move_as (v := vy) ((hoff16 1 rfl).trans ((hF13 1).trans (hF0 1)))) ?_
  refine ra 6 rfl (fun _ => r_move_as (v := (iv k)) hs17) ?_
  replace hy := hy.tr (Sm.ext he20)
  obtain ⟨b32, o33, c34, A37, B38, hv35, hc36, hx39, hd40, ln41, ln42⟩ := hy.ix (i := (k : Int)) (k) oM oM
  refine ra 7 rfl (fun _ => r_indexAddr (i := (k : Int)) uT22 ty55 hv35 rfl oM oM) ?_
  refine ra 8 rfl (fun _ => r_fieldAddr uT55 rfl ty3 rfl) ?_
  refine RA.rd 9 rfl kR rfl rfl rfl dC (Ext.refl _) (fun u hu => r_load (v := (iv ((es.getD (k) default).1))) uT3 ag3 rfl (cell_ext hu (hc36 0 _ rfl))) ?_
  refine ra 10 rfl (fun _ => r_neq (k := .i64) (a := (es.getD (k) default).1) (b := (es.getD (k) default).1) rfl rfl) ?_
  refine ra 11 rfl (fun _ => r_move_as (v := (bd (((es.getD (k) default).1) ≠ ((es.getD (k) default).1)))) rfl) ?_
  rcases bD (((es.getD (k) default).1) ≠ ((es.getD (k) default).1)) with ⟨hb43, hb43p⟩ | ⟨hb43, hb43p⟩
  ·exact absurd rfl hb43p
  refine RA.gtake 12 rfl kR rfl rfl (bool_eq hb43) rfl dC (fun _ => r_move_as (v := vx) ((hoff16 0 rfl).trans ((hF13 0).trans (hF0 0)))) ?_
  refine RA.gtake 13 rfl kR rfl rfl (bool_eq hb43) rfl dC (fun _ => r_move_as (v := (iv k)) hs17) ?_
  obtain ⟨b44, o45, c46, A49, B50, hv47, hc48, hx51, hd52, ln53, ln54⟩ := hx.ix (i := (k : Int)) (k) oM oM
  refine RA.gtake 14 rfl kR rfl rfl (bool_eq hb43) rfl dC (fun _ => r_indexAddr (i := (k : Int)) uT22 ty55 hv47 rfl oM oM) ?_
  refine RA.gtake 15 rfl kR rfl rfl (bool_eq hb43) rfl dC (fun _ => r_fieldAddr uT55 rfl ty44 rfl) ?_
  refine RA.grd 16 rfl kR rfl rfl rfl (bool_eq hb43) rfl dC (Ext.refl _) (fun u hu => r_loada (cs := [(bd ((es.getD (k) default).2.num < 0)), (sv A49), (sv B50)]) uT44 ag44 ty44 rfl (fun j v hj => cell_ext hu ((cdrop hc48 1) j v hj))) ?_
  refine RA.all [17] kR rfl ?_
  refine RS.gcall rfl rfl rfl (bool_eq hb43) rfl dC (r_call (vl := [(.agg #[(bd ((es.getD (k) default).2.num < 0)), (sv A49), (sv B50)])]) ent34 rfl) (r03_cant hx51 hd52 oM oM) ?_ RS.nil
  rintro _ w55 ⟨rfl, he56⟩
  refine rm he56 ?_
  replace hE := hE.nx he56
  refine RA.gtake 18 rfl kR rfl rfl (bool_eq hb43) rfl dC (fun _ => r_not rfl) ?_
  refine ra 19 rfl (fun _ => r_pick_f (v := (.bool false)) (bool_eq hb43) rfl) ?_
  refine ra 20 rfl (fun _ => r_move_as (v := (.bool false)) rfl) ?_
  refine RA.gtake 21 rfl kR rfl rfl rfl rfl dC (fun _ => r_move_as (v := vx) ((hoff16 0 rfl).trans ((hF13 0).trans (hF0 0)))) ?_
  refine RA.gtake 22 rfl kR rfl rfl rfl rfl dC (fun _ => r_move_as (v := (iv k)) hs17) ?_
  replace hx := hx.tr (Sm.ext he56)
  obtain ⟨b57, o58, c59, A62, B63, hv60, hc61, hx64, hd65, ln66, ln67⟩ := hx.ix (i := (k : Int)) (k) oM oM
  refine RA.gtake 23 rfl kR rfl rfl rfl rfl dC (fun _ => r_indexAddr (i := (k : Int)) uT22 ty55 hv60 rfl oM oM) ?_
  refine RA.gtake 24 rfl kR rfl rfl rfl rfl dC (fun _ => r_fieldAddr uT55 rfl ty44 rfl) ?_
  refine RA.grd 25 rfl kR rfl rfl rfl rfl rfl dC (Ext.refl _) (fun u hu => r_loada (cs := [(bd ((es.getD (k) default).2.num < 0)), (sv A62), (sv B63)]) uT44 ag44 ty44 rfl (fun j v hj => cell_ext hu ((cdrop hc61 1) j v hj))) ?_
  refine RA.gtake 26 rfl kR rfl rfl rfl rfl dC (fun _ => r_move_as (v := vy) ((hoff16 1 rfl).trans ((hF13 1).trans (hF0 1)))) ?_
  refine RA.gtake 27 rfl kR rfl rfl rfl rfl dC (fun _ => r_move_as (v := (iv k)) hs17) ?_
  replace hy := hy.tr (Sm.ext he56)
  obtain ⟨b68, o69, c70, A73, B74, hv71, hc72, hx75, hd76, ln77, ln78⟩ := hy.ix (i := (k : Int)) (k) oM oM
  refine RA.gtake 28 rfl kR rfl rfl rfl rfl dC (fun _ => r_indexAddr (i := (k : Int)) uT22 ty55 hv71 rfl oM oM) ?_
  refine RA.gtake 29 rfl kR rfl rfl rfl rfl dC (fun _ => r_fieldAddr uT55 rfl ty44 rfl) ?_
  refine RA.grd 30 rfl kR rfl rfl rfl rfl rfl dC (Ext.refl _) (fun u hu => r_loada (cs := [(bd ((es.getD (k) default).2.num < 0)), (sv A73), (sv B74)]) uT44 ag44 ty44 rfl (fun j v hj => cell_ext hu ((cdrop hc72 1) j v hj))) ?_
  refine RA.all [31] kR rfl ?_
  refine RS.gcall rfl rfl rfl rfl rfl dC (r_call (vl := [(.agg #[(bd ((es.getD (k) default).2.num < 0)), (sv A62), (sv B63)]), (.agg #[(bd ((es.getD (k) default).2.num < 0)), (sv A73), (sv B74)])]) ent17 rfl) (r03_eqt hx64 hd65 hx75 hd76) ?_ RS.nil
  rintro _ w79 ⟨rfl, he80⟩
  refine rm he80 ?_
  replace hE := hE.nx he80
  refine RA.gtake 32 rfl kR rfl rfl rfl rfl dC (fun _ => r_not rfl) ?_
  refine ra 33 rfl (fun _ => r_pick_f (v := (.bool false)) rfl rfl) ?_
  refine RA.done kR ?_
  refine wcond_f rfl ?_
  refine wskip ?_
  refine wregion (mV hs17 (rV (r_add (k := .i64) (a := (k : Int)) (b := 1) (c := (k : Int) + 1) rfl rfl (wi64 oM)) (aS (v := (iv ((k : Int) + 1))) rfl (RL.nil ?_))))
  replace hx := hx.tr (Sm.ext he80)
  replace hy := hy.tr (Sm.ext he80)
  refine ⟨(k + 1), ⟨?_, ?_, ?_, ?_, ?_, ?_⟩, ?_⟩
  · exact (by repeat (first | exact hoff16 | refine Off.st ?_ dC _))
  · first | rfl | exact int_eq oM | exact bool_eq (by simp)
  · omega
  · exact hx
  · exact hy
  · exact hE
  (try dsimp only)
  omega
 refine wexit ?_
 refine wsr (aS (v := (.bool true)) rfl (RL.nil ?_))
 refine wret ?_
 refine ⟨[(.bool true)], ⟨rfl, trivial⟩, ?_⟩
 exact ⟨rfl, hE⟩
end Go.Proofs.YtelbjmhhbeijkaaGreat
namespace Go.Vg
open Go Go.RowKit Go.Vm
def Oz (L : Nat) (D : Nat → TypeId → Prop) (w : World) (lo : Nat) (T : TypeId) (v : Value) (es : List Ent') : Prop := ∃ xs, Ow w lo T 4 v xs.length (xs.map entC).flatten ∧ Fe (Ez L D w) xs es
section
variable {L L' : Nat} {D D' : Nat → TypeId → Prop} {w w' : World} {lo b : Nat} {T T' : TypeId} {v : Value} {es : List Ent'} {l : List Value}
theorem Oz.nil : Oz L D w lo T (.slice none 0 0) [] := ⟨[], Ow.nil lo 4, Fe.nil⟩
theorem Oz.ext (h : Oz L D w lo T v es) (e : Ext w w') : Oz L D w' lo T v es := by
  obtain ⟨xs, h1, h2⟩ := h
  exact ⟨xs, h1.ext e, h2.imp fun _ _ h => h.tr (Sm.ext e)⟩
theorem Oz.exo (h : Oz L D w lo T v es) (e : Exc b w w') (hne : v.ownBlock ≠ some b) (hb : Nb w b) : Oz L D w' lo T v es := by
  obtain ⟨xs, h1, h2⟩ := h
  exact ⟨xs, h1.exo e hne, h2.imp fun _ _ h => h.apn e hb⟩
theorem Oz.lt (h : Oz L D w lo T v es) (b : Nat) (hb : v.ownBlock = some b) : b < w.heap.size := by obtain ⟨xs, h1, h2⟩ := h; exact (World.ownsRow.lt h1 b hb).2
theorem Oz.one (h : Oz L D w lo T v es) : v.oneCell' = true := by obtain ⟨xs, h1, h2⟩ := h; exact h1.one
theorem Oz.len (h : Oz L D w lo T v es) : ∃ A c, v = .slice A es.length c ∧ es.length ≤ c ∧ c ≤ 9223372036854775807 := by obtain ⟨xs, h1, h2⟩ := h; rw [← h2.1]; exact h1.len
theorem Oz.gsm (h : Oz L D w lo T v es) (hg : w.grownBy w' v.ownBlock) (hD : ∀ b, lo ≤ b → ¬ D' b T) : Sm D' w w' := by obtain ⟨xs, h1, h2⟩ := h; exact h1.sm hg hD
theorem Oz.gbk (h : Oz L D w lo T v es) (hg : w.grownBy w' v.ownBlock) (hb : Bk w b T' l) (hne : T' ≠ T) : Bk w' b T' l := by obtain ⟨xs, h1, h2⟩ := h; exact h1.bk hg hb (.inr hne)
theorem Oz.gbo (_h : Oz L D w lo T v es) (hg : w.grownBy w' v.ownBlock) (hb : Bk w b T' l) (hne : v.ownBlock ≠ some b) : Bk w' b T' l := (hg.block b hb.lt (fun he => hne he.symm)).trans hb
theorem Oz.gbe {w0 : World} {B : Nat} (h : Oz L D w lo T v es) (hg : w.grownBy w' v.ownBlock) (hE : Below B w0 w) (hB : B ≤ lo) (hs : B ≤ w.heap.size) : Below B w0 w' := by
  obtain ⟨xs, h1, h2⟩ := h
  exact h1.below hg hE hB hs
theorem Oz.rd (h : Oz L D w lo T v es) (h1 : ∀ b, lo ≤ b → D' b T) (h2 : ∀ b T, D b T → D' b T) : Es L D' w v es := by
  obtain ⟨xs, g1, g2⟩ := h
  exact ⟨xs, g1.ss rfl rfl dC (fun _ _ => rfl) h1, g2.imp fun _ _ h => h.mono h2⟩
end
section
variable {P : Program} {f : Nat → Value} {w : World} {dst : Option Tmp} {ty : TypeId} {pos : String} {aft : Array Edge} {g : Option (Nat × Bool)} {x y z : Operand} {t e : TypeId} {D D2 : Nat → TypeId → Prop}
theorem h_appendZ {L lo bytes : Nat} {zz v1 v2 : Value} {es : List Ent'} {i0 : Int} {s : Bool} {vn vd : Value} {q : Rat} (hu : P.underlying t = some (.slice e)) (ht : TyI P e 4 bytes zz) (hz : zz.cells.size = 4) (hx : ev f x = v1) (hy : ev f y = v2)
    (ho : Oz L D w lo e v1 es) (hs : Sc D2 w 4 v2 1 [.int .i64 i0, .bool s, vn, vd]) (hq : Rz L D w (s, vn, vd) q) (hD : ∀ b, lo ≤ b → ¬ D b e) (h63 : es.length + 1 ≤ maxLen) (hby : (es.length + 1) * bytes ≤ 140737488355328) (hlo : lo ≤ w.heap.size) :
    Run P f ⟨dst, .call ⟨.builtin .append, #[x, y], #[t, t]⟩, ty, pos, aft, g⟩ w fun v w' => Oz L D w' lo e v (es ++ [(i0, q)]) ∧ w.grownBy w' v1.ownBlock := by
  obtain ⟨A, B, rfl, rfl⟩ := hq.open'
  have ho' := ho
  obtain ⟨xs, h1, h2⟩ := ho
  obtain ⟨v, w', hr, h4, h5⟩ := h_append (P := P) (f := f) (dst := dst) (ty := ty) (pos := pos) (aft := aft) (g := g) hu ht hz dC hx hy h1 hs (one_ent (i0, s, A, B)) (by rw [h2.1]; exact h63) (by rw [h2.1]; exact hby) hlo
  have hsm : Sm D w w' := ho'.gsm h5 hD
  refine ⟨v, w', hr, ⟨xs ++ [(i0, s, A, B)], ?_, (h2.imp fun _ _ h => h.tr hsm).snoc ⟨rfl, hq.tr hsm⟩⟩, h5⟩
  rw [List.length_append, List.length_singleton, List.map_append, List.flatten_append]
  simpa using h4
end
abbrev LC : Type := Int × Bool × Value × Value
abbrev litC : LC → List Value := fun c => [.int .i64 c.1, .bool c.2.1, c.2.2.1, c.2.2.2]
section
variable {L : Nat} {D D' : Nat → TypeId → Prop} {w : World} {b : Nat} {T : TypeId}
theorem lit_open {R : RC → Rat → Prop} (hR : ∀ c q, R c q → ∃ A B : SV, c.2.1 = sv A ∧ c.2.2 = sv B) : ∀ (l : List (LC × Rat)), (∀ p ∈ l, R p.1.2 p.2) → ∃ xs : List EC, (xs.map entC).flatten = ((l.map Prod.fst).map litC).flatten ∧ Fe (fun x e => x.1 = e.1 ∧ R (rcOf x) e.2) xs (l.map fun p => (p.1.1, p.2)) := by
  intro l
  induction l with
  | nil => intro _; exact ⟨[], rfl, Fe.nil⟩
  | cons p l ih =>
    intro h
    obtain ⟨xs, h1, h2⟩ := ih (fun q hq => h q (List.mem_cons_of_mem _ hq))
    obtain ⟨A, B, e1, e2⟩ := hR _ _ (h p (List.mem_cons_self ..))
    refine ⟨(p.1.1, p.1.2.1, A, B) :: xs, ?_, by simp [h2.1], fun k hk => ?_⟩
    · simp only [List.map_cons, List.flatten_cons, h1]
      rw [show entC (p.1.1, p.1.2.1, A, B) = litC p.1 by simp only [entC, litC]; rw [e1, e2]]
    cases k with
    | zero =>
      refine ⟨rfl, ?_⟩
      have := h p (List.mem_cons_self ..)
      have e3 : p.1.2 = (p.1.2.1, sv A, sv B) := Prod.ext rfl (Prod.ext e1 e2)
      rw [e3] at this
      exact this
    | succ k =>
      have := h2.2 k (by simpa using hk)
      simpa [List.getD_eq_getElem?_getD] using this
theorem Es.lit (l : List (LC × Rat)) (hb : Bk w b T ((l.map Prod.fst).map litC).flatten) (hd : D b T) (hm : l.length ≤ 9223372036854775807) (h : ∀ p ∈ l, Rz L D w p.1.2 p.2) : Es L D w (.slice (some ⟨b, 0, none⟩) l.length l.length) (l.map fun p => (p.1.1, p.2)) := by
  obtain ⟨xs, h1, h2⟩ := lit_open (R := Rz L D w) (fun c q h => h.open') l h
  have hl : xs.length = l.length := by rw [h2.1]; simp
  rw [← h1] at hb
  have ha : Ae [] w b T xs l.length := ⟨by rw [List.append_nil]; exact hb, hl⟩
  exact ⟨xs, ha.ss hd (Nat.le_refl _) hm, h2⟩
theorem Ec.lit (l : List (LC × Rat)) (hb : Bk w b T ((l.map Prod.fst).map litC).flatten) (hd : D b T) (hm : l.length ≤ 9223372036854775807) (h : ∀ p ∈ l, Rk L D w p.1.2 p.2) : Ec L D w (.slice (some ⟨b, 0, none⟩) l.length l.length) (l.map fun p => (p.1.1, p.2)) := by
  obtain ⟨xs, h1, h2⟩ := lit_open (R := Rk L D w) (fun c q h => h.open') l h
  have hl : xs.length = l.length := by rw [h2.1]; simp
  rw [← h1] at hb
  have ha : Ae [] w b T xs l.length := ⟨by rw [List.append_nil]; exact hb, hl⟩
  exact ⟨xs, ha.ss hd (Nat.le_refl _) hm, h2⟩
end
end Go.Vg
namespace Go.Proofs.YtelbjmhhbeijkaaGreat
open Go.Vg Go.RowKit _root_.Go.Proofs.Tryz
set_option linter.unusedVariables false
open Go.Vm
def shE (e : Ent') : Ent' := (modF e.1 9 - 1, e.2)
def shL (es : List Ent') : List Ent' := (es.take 40).map shE
theorem shL_len (es : List Ent') : (shL es).length ≤ 40 := by unfold shL; rw [List.length_map, List.length_take]; omega
set_option maxHeartbeats 1000000 in
theorem h_first {w : World} {L : Nat} {Des : Nat → TypeId → Prop} {ves : Value} {es : List Ent'} (hes0 : Es L Des w ves es) {n : Nat} (hn : n ≤ 1048576) :
    Calls Tryz.prog 25 #[ves, (iv n)] w fun e w' => ∃ v, e = .returned v ∧ Es L Des w' v (es.take n) ∧ Ext w w' := by
 have hE : Below w.heap.size w w := Below.refl _ _
 have hes := hes0.old
 clear hes0
 refine calls_of (n := 13) (rs := [.tmp 4]) func25 rfl rfl rfl bL ?_
 refine wset fun F0 hF0 => ?_
 refine wsr (aS (v := (.slice none (0) (0))) rfl (RL.nil (wseq (wsr (mV (v := ves) (hF0 0) ?_)))))
 obtain ⟨A1, c2, hv3, hc4, hc5⟩ := hes.len
 refine rV (r_len uT22 hv3) (mV (v := (iv n)) (hF0 1) (rV (r_gtr (k := .i64) (a := ((es.length : Nat) : Int)) (b := (n : Int)) rfl rfl) (RL.nil ?_)))
 refine wcD (p := (n : Int) < ((es.length : Nat) : Int)) rfl (fun hb6 hb6p => ?_) (fun hb6 hb6p => ?_)
 ·refine wsr ?_
  refine mV (v := ves) (hF0 0) (mV (v := (iv n)) (hF0 1) ?_)
  have r7 := hes.take (n) oM hv3
  refine rV (r_sh (h := (n : Int)) (kk := n) uT22 ty55 hv3 rfl oM oM) (aS (v := (.slice A1 (n) (c2))) rfl (RL.nil ?_))
  refine wret ?_
  refine ⟨[(.slice A1 (n) (c2))], ⟨rfl, trivial⟩, ?_⟩
  exact ⟨r7.mono (fun _ _ h => h.1), hE⟩
 refine wskip ?_
 refine wsr (mV (v := ves) (hF0 0) (aS (v := ves) rfl (RL.nil ?_)))
 refine wret ?_
 refine ⟨[ves], ⟨rfl, trivial⟩, ?_⟩
 rw [List.take_of_length_le oM]
 exact ⟨hes.mono (fun _ _ h => h.1), hE⟩
set_option maxHeartbeats 1000000 in
theorem l_short {w : World} {L : Nat} {Des : Nat → TypeId → Prop} {ves : Value} {es : List Ent'} (hes0 : Es L Des w ves es) :
    Calls Tryz.prog 6 #[ves] w fun e w' => ∃ v, e = .returned v ∧ Es L (fun b T => (Des b T ∧ b < w.heap.size) ∨ w.heap.size ≤ b) w' v (shL es) ∧ Ext w w' := by
 have hE : Below w.heap.size w w := Below.refl _ _
 have hes := hes0.old
 clear hes0
 have hlo : w.heap.size ≤ w.heap.size := Nat.le_refl _
 have hfl : (es.take 40).length ≤ 40 := by rw [List.length_take]; omega
 refine calls_of (n := 25) (rs := [.tmp 2]) func6 rfl rfl rfl bL ?_
 refine wset fun F0 hF0 => ?_
 refine wsr (aS (v := (.slice none (0) (0))) rfl (RL.nil (wsr (aS (v := (.slice none (0) (0))) rfl (RL.nil (wseq (wsr (mV (v := ves) (hF0 0) ?_))))))))
 refine cL (vl := [ves, (iv 40)]) ent25 (h_first (n := 40) hes dC) rfl ?_
 rintro vf3 w1 ⟨hr4, he2⟩
 replace hE := hE.nx he2
 obtain ⟨A5, c6, hv7, hc8, hc9⟩ := hr4.len
 refine rV (r_len uT22 hv7) (mV (v := (iv 0)) rfl (RL.nil ?_))
 refine wblock ?_
 refine wset fun F10 hF11 => ?_
 refine wloop (σ := Nat × Value) (fun (s : Nat × Value) fl wl => match s with | (k, vr) => Off (3 :: (5 :: (rg 9 15 []))) F10 fl ∧ fl 9 = (iv k) ∧ fl 3 = vr ∧ (k ≤ (es.take 40).length) ∧ (Oz L (fun b T => Des b T ∧ b < w.heap.size) wl w.heap.size 55 vr (((es.take 40).take k).map shE)) ∧ (Es L (fun b T => Des b T ∧ b < w.heap.size) wl ves es) ∧ (Below w.heap.size w wl) ∧ (Es L (fun b T => Des b T ∧ b < w.heap.size) wl vf3 (es.take 40))) (fun (s : Nat × Value) => match s with | (k, vr) => (es.take 40).length - k) (0, (.slice none 0 0)) ?_ ?_
 ·replace hes := hes.tr (Sm.ext he2)
  exact ⟨Off.refl _ _, (hF11 9).trans (rfl), (hF11 3).trans (rfl), Nat.zero_le _, Oz.nil, hes, hE, hr4⟩
 clear hes hE hr4
 rintro ⟨k, vr⟩ f12 w13 ⟨hoff14, hs15, hs16, hk, hR, hes, hE, hr4⟩
 refine wsr (rV (r_lss (k := .i64) (a := (k : Int)) (b := (((es.take 40).length : Nat) : Int)) hs15 ((hoff14 8 rfl).trans (hF11 8))) (RL.nil (wseq ?_)))
 refine wcD (p := (k : Int) < (((es.take 40).length : Nat) : Int)) rfl (fun hb17 hb17p => ?_) (fun hb17 hb17p => ?_)
 ·refine wskip ?_
  refine wseq ?_
  refine wblock ?_
  refine wsr ?_
  obtain ⟨b18, o19, c20, s25, A23, B24, x26, d27, hv21, hc22, hx28, lm29, ln30, hd31, lm32, ln33, eq34⟩ := hr4.ix (i := (k : Int)) (k) oM oM
  refine rV (r_indexAddr (i := (k : Int)) uT22 ty55 ((((hoff14 7 rfl).trans (hF11 7))).trans hv21) hs15 oM oM) (rV (r_loada (cs := [(iv (((es.take 40).getD (k) default).1)), (.bool s25), (sv A23), (sv B24)]) uT55 ag55 ty55 rfl hc22) ?_)
  refine rU (h_alloc (cs := [(iv 0), (.bool false), (.slice none 0 0), (.slice none 0 0)]) ty55 rfl) ?_
  rintro _ w35 ⟨b36, rfl, hs39, hb38, he37⟩
  have ge_b36 := hE.ge hs39
  have on_vr_b36 : vr.ownBlock ≠ some b36 := fun h => absurd (hR.lt _ h) (by rw [hs39]; exact Nat.lt_irrefl _)
  replace hE := hE.nx he37
  refine RL.runs rfl rfl (h_store (vv := (.agg #[(iv (((es.take 40).getD (k) default).1)), (.bool s25), (sv A23), (sv B24)])) (cs := [(iv (((es.take 40).getD (k) default).1)), (.bool s25), (sv A23), (sv B24)]) (o := 0) ty55 rfl rfl rfl rfl (one_cons rfl (one_cons rfl (one_cons hx28.one (one_cons hd31.one one_nil)))) hb38 bL) ?_
  rintro w40 ⟨hn41, hx42, hz43⟩
  replace hE := hE.nb hx42 ge_b36
  have nb_hx42 := (Nb.of hb38 (nu_cons rfl (nu_cons rfl (nu_cons rfl (nu_cons rfl nu_nil)))))
  replace hb38 : Bk w40 b36 55 [(iv (((es.take 40).getD (k) default).1)), (.bool s25), (sv A23), (sv B24)] := hn41
  refine RL.nil ?_
  have hskl : (((es.take 40).take k).map shE).length = k := by rw [List.length_map, List.length_take]; omega
  refine wdraw mixed fun w44 he45 => ?_
  replace hE := hE.nx he45
  refine ra 0 rfl (fun _ => r_move_as (v := vr) hs16) ?_
  refine ra 1 rfl (fun _ => r_fieldAddr uT55 rfl ty3 rfl) ?_
  replace hb38 := hb38.ext he45
  have hc46 := hb38.cell (j := 0) (u := (iv (((es.take 40).getD (k) default).1))) rfl
  refine RA.rd 2 rfl kR rfl rfl rfl dC (Ext.refl _) (fun u hu => r_load uT3 ag3 rfl (cell_ext hu hc46)) ?_
  refine ra 5 rfl (fun _ => r_fieldAddr uT55 rfl ty44 rfl) ?_
  have hc47 := hb38.cells (o := 1) (cs := [(.bool s25), (sv A23), (sv B24)]) rfl
  refine RA.rd 6 rfl kR rfl rfl rfl dC (Ext.refl _) (fun u hu => r_loada (o := 1) (cs := [(.bool s25), (sv A23), (sv B24)]) uT44 ag44 ty44 rfl (fun j v hj => cell_ext hu (hc47 j v hj))) ?_
  refine RA.all [3] kR rfl ?_
  refine RS.call rfl rfl rfl dC (r_call (vl := [(iv (((es.take 40).getD (k) default).1)), (iv 9)]) ent26 rfl) (mod_spec _ oM oM) ?_ RS.nil
  rintro _ _ ⟨rfl, rfl⟩
  refine rm (Ext.refl _) ?_
  have hmr := modF_range ((es.take 40).getD (k) default).1 9 dC
  refine ra 4 rfl (fun _ => r_sub (k := .i64) (a := modF (((es.take 40).getD (k) default).1) 9) (b := 1) (c := (modF (((es.take 40).getD (k) default).1) 9) - 1) rfl rfl (wi64 oM)) ?_
  refine ra 7 rfl (fun _ => r_build (vl := [(0, (iv ((modF (((es.take 40).getD (k) default).1) 9) - 1))), (1, (.agg #[(.bool s25), (sv A23), (sv B24)]))]) (cs := [(iv ((modF (((es.take 40).getD (k) default).1) 9) - 1)), (.bool s25), (sv A23), (sv B24)]) uT55 ty55 rfl (pl55 uT55) rfl) ?_
  refine RA.all [8] kR rfl ?_
  refine RS.run rfl rfl rfl dC (h_lit (vl := [(0, (.agg #[(iv ((modF (((es.take 40).getD (k) default).1) 9) - 1)), (.bool s25), (sv A23), (sv B24)]))]) (cs := [(iv ((modF (((es.take 40).getD (k) default).1) 9) - 1)), (.bool s25), (sv A23), (sv B24)]) uT22 ty55 rfl dC (by first | (simp [Instr.fill, Value.cells]; done) | rfl | kernel_rfl)) ?_ RS.nil
  rintro _ w49 ⟨b50, rfl, hs53, hb52, he51⟩
  refine rm he51 ?_
  have lt_b36_b50 := Nat.lt_of_lt_of_eq hb38.lt hs53.symm
  have ge_b50 := hE.ge hs53
  replace hR := ((hR.ext he37).exo hx42 on_vr_b36 nb_hx42).ext he45
  have on_vr_b50 : vr.ownBlock ≠ some b50 := fun h => absurd (hR.lt _ h) (by rw [hs53]; exact Nat.lt_irrefl _)
  replace hE := hE.nx he51
  refine RA.all [9] kR rfl ?_
  replace hR := hR.ext he51
  replace hx28 := ((hx28.tr (Sm.ext he37)).apn hx42 nb_hx42).tr (Sm.ext (Ext.trans he45 he51))
  replace hd31 := ((hd31.tr (Sm.ext he37)).apn hx42 nb_hx42).tr (Sm.ext (Ext.trans he45 he51))
  refine RS.run rfl rfl rfl dC (h_appendZ (v1 := vr) (v2 := (.slice (some ⟨b50, 0, none⟩) (1) (1))) (q := ((es.take 40).getD (k) default).2) uT22 ty55 rfl rfl rfl hR (hb52.sc (D := fun _ _ => True) trivial rfl dC) (Rz.of (L := L) hx28 lm29 oM hd31 lm32 oM (show ratOf s25 (val x26) (val d27) = ((es.take 40).getD (k) default).2 from eq34)) (fun b hb hd => absurd hd.2 (Nat.not_lt_of_le hb)) (by simp only [maxLen]; omega) oM hE.size) ?_ RS.nil
  rintro v55 w54 ⟨ho56, hg57⟩
  refine ⟨.inr (.inl kR), ?_⟩
  replace hE := hR.gbe hg57 hE hlo hE.size
  refine ra 10 rfl (fun _ => r_assign_as (v := v55) rfl) ?_
  refine RA.done kR ?_
  refine wregion (rV (r_add (k := .i64) (a := (k : Int)) (b := 1) (c := (k : Int) + 1) hs15 rfl (wi64 oM)) (mV (v := (iv ((k : Int) + 1))) rfl (RL.nil ?_)))
  replace hes := (((hes.tr (Sm.ext he37)).tr (Sm.exc hx42 (fun _ _ _ _ hd => absurd hd.2 (Nat.not_lt_of_le ge_b36)))).tr (Sm.ext (Ext.trans he45 he51))).tr (hR.gsm hg57 (fun b hb hd => absurd hd.2 (Nat.not_lt_of_le (Nat.le_trans hlo hb))))
  replace hr4 := (((hr4.tr (Sm.ext he37)).tr (Sm.exc hx42 (fun _ _ _ _ hd => absurd hd.2 (Nat.not_lt_of_le ge_b36)))).tr (Sm.ext (Ext.trans he45 he51))).tr (hR.gsm hg57 (fun b hb hd => absurd hd.2 (Nat.not_lt_of_le (Nat.le_trans hlo hb))))
  refine ⟨(k + 1, v55), ⟨?_, ?_, ?_, ?_, ?_, ?_, ?_, ?_⟩, ?_⟩
  · exact (by repeat (first | exact hoff14 | refine Off.st ?_ dC _))
  · first | rfl | exact int_eq oM | exact bool_eq (by simp)
  · first | rfl | exact int_eq oM | exact bool_eq (by simp)
  · omega
  · rw [take_snoc (es.take 40) k oM, List.map_append]; exact ho56
  · exact hes
  · exact hE
  · exact hr4
  (try dsimp only)
  omega
 refine wexit ?_
 refine wseq ?_
 have hke : (es.take 40).take k = es.take 40 := List.take_of_length_le oM
 refine wregion (mV hs16 (aS (v := vr) rfl (RL.nil ?_)))
 refine wret ?_
 refine ⟨[vr], ⟨rfl, trivial⟩, ?_⟩
 have hR2 := hR
 rw [hke] at hR2
 exact ⟨hR2.rd (fun _ h => .inr h) (fun _ _ h => .inl h), hE⟩
end Go.Proofs.YtelbjmhhbeijkaaGreat
namespace Go.Proofs.YtelbjmhhbeijkaaGreat
open Go.Vg Go.RowKit _root_.Go.Proofs.Tryz
set_option linter.unusedVariables false
open Go.Vm
def IsP (p : List Int) : Prop := (∀ x ∈ p, 0 ≤ x ∧ x < (p.length : Int)) ∧ p.Nodup
theorem isp_no {p : List Int} {k : Nat} (hk : k < p.length) (h : ¬ (0 ≤ p.getD k default ∧ p.getD k default < (p.length : Int))) : ¬ IsP p := fun hp => h (hp.1 _ (getD_mem _ _ hk))
theorem isp_dup {p : List Int} {k : Nat} (hk : k < p.length) (h : p.getD k default ∈ p.take k) : ¬ IsP p := fun hp => by
  have h1 : (p.take (k + 1)).Nodup := List.Nodup.sublist (List.take_sublist _ _) hp.2
  rw [take_snoc p k hk, List.nodup_append] at h1
  exact h1.2.2 _ h _ (by simp) rfl
theorem seen_next {p : List Int} {sn : List Bool} {k n : Nat} (hk : k < p.length) (h0 : 0 ≤ p.getD k default) (h1 : p.getD k default < (n : Int)) (hn : sn.length = n) (hs : ∀ i, i < n → sn.getD i default = decide ((i : Int) ∈ p.take k)) : ∀ i, i < n → (sn.set (p.getD k default).toNat true).getD i default = decide ((i : Int) ∈ p.take (k + 1)) := fun i hi => by
  rw [take_snoc p k hk]
  by_cases h : (p.getD k default).toNat = i
  · have : (i : Int) = p.getD k default := by omega
    rw [decide_eq_true (by rw [this]; simp), h]
    simp [List.getD_eq_getElem?_getD, List.getElem?_set, hn, hi]
  have h2 : (i : Int) ≠ p.getD k default := by omega
  have e1 : (sn.set (p.getD k default).toNat true).getD i default = sn.getD i default := by
    generalize (p.getD k default).toNat = m at h
    simp [List.getD_eq_getElem?_getD, List.getElem?_set, h]
  rw [e1, hs i hi]
  simp only [List.mem_append, List.mem_singleton, h2, or_false]
set_option maxHeartbeats 1000000 in
theorem v_isp {w : World} {Dp : Nat → TypeId → Prop} {vp : Value} {p : List Int} (hp0 : Sg (gI .i64) Dp w vp p) (lnp : p.length ≤ 1048576) :
    Calls Tryz.prog 27 #[vp] w fun e w' => ∃ v, e = .returned v ∧ (∃ r : Bool, v = .bool r ∧ (r = true ↔ IsP p)) ∧ Ext w w' := by
 have hE : Below w.heap.size w w := Below.refl _ _
 have hp := hp0.old
 clear hp0
 refine calls_of (n := 33) (rs := [.tmp 2]) func27 rfl rfl rfl bL ?_
 refine wset fun F0 hF0 => ?_
 refine wsr (aS (v := (.bool false)) rfl (RL.nil (wsr (mV (v := vp) (hF0 0) ?_))))
 obtain ⟨A1, c2, hv3, hc4, hc5⟩ := hp.len
 refine rV (r_len uT23 hv3) ?_
 have hn11 : (((p.length : Nat) : Int) : Int) = ((p.length : Nat) : Int) := by omega
 refine rU (h_make1 (n := p.length) uT74 ty4 rfl (int_eq hn11) (int_eq hn11) oM oM) ?_
 rintro _ w6 ⟨b7, rfl, hs10, hb9, he8⟩
 have ge_b7 := hE.ge hs10
 replace hE := hE.nx he8
 replace hb9 := Af.made (g := gB) (z := false) hb9 rfl
 refine aS (v := (.slice (some ⟨b7, 0, none⟩) (p.length) (p.length))) rfl (RL.nil (wseq (wsr (mV (v := vp) (hF0 0) (rV (r_len uT23 hv3) (mV (v := (iv 0)) rfl (RL.nil ?_)))))))
 refine wblock ?_
 refine wset fun F12 hF13 => ?_
 refine wloop (σ := Nat × List Bool) (fun (s : Nat × List Bool) fl wl => match s with | (k, sn) => Off (2 :: (5 :: (rg 11 22 []))) F12 fl ∧ fl 11 = (iv k) ∧ (k ≤ p.length) ∧ (∀ x ∈ p.take k, 0 ≤ x ∧ x < (p.length : Int)) ∧ ((p.take k).Nodup) ∧ (∀ i, i < p.length → sn.getD i default = decide ((i : Int) ∈ p.take k)) ∧ (sn.length = p.length) ∧ (Af (gB) wl b7 4 sn p.length) ∧ (Sg (gI .i64) (fun b T => Dp b T ∧ b < w.heap.size) wl vp p) ∧ (Below w.heap.size w wl)) (fun (s : Nat × List Bool) => match s with | (k, sn) => p.length - k) (0, List.replicate p.length false) ?_ ?_
 ·replace hp := hp.tr (Sm.ext he8)
  exact ⟨Off.refl _ _, (hF13 11).trans (rfl), Nat.zero_le _, (fun x hx => by simp at hx), by simp, (fun i hi => by simp [List.getD_eq_getElem?_getD, hi]), by simp, hb9, hp, hE⟩
 clear hp hE hb9
 rintro ⟨k, sn⟩ f14 w15 ⟨hoff16, hs17, hk, hr, hnd, hs, hsl, hb9, hp, hE⟩
 refine wsr (rV (r_lss (k := .i64) (a := (k : Int)) (b := ((p.length : Nat) : Int)) hs17 ((hoff16 10 rfl).trans (hF13 10))) (RL.nil (wseq ?_)))
 refine wcD (p := (k : Int) < ((p.length : Nat) : Int)) rfl (fun hb18 hb18p => ?_) (fun hb18 hb18p => ?_)
 ·refine wskip ?_
  refine wseq ?_
  refine wblock ?_
  refine wseq ?_
  have hkl : k < p.length := by omega
  refine wregion ?_
  obtain ⟨b19, o20, c21, hv22, hc23⟩ := hp.ix (i := (k : Int)) (k) oM oM
  refine rV (r_indexAddr (i := (k : Int)) uT23 ty3 ((((hoff16 9 rfl).trans (hF13 9))).trans hv22) hs17 oM oM) (rV (r_load (v := (iv (p.getD (k) default))) uT3 ag3 rfl hc23) (aS (v := (iv (p.getD (k) default))) rfl (RL.nil (wseq (wsr (mV (v := (iv (p.getD (k) default))) rfl (rV (r_lss (k := .i64) (a := p.getD (k) default) (b := 0) rfl rfl) (mV (v := (bd ((p.getD (k) default) < 0))) rfl ?_))))))))
  rcases bD ((p.getD (k) default) < 0) with ⟨hb24, hb24p⟩ | ⟨hb24, hb24p⟩
  ·have hbad := hb24p
   refine RL.gno rfl rfl (bool_eq hb24) rfl dC ?_
   refine RL.gno rfl rfl (bool_eq hb24) rfl dC ?_
   refine RL.gno rfl rfl (bool_eq hb24) rfl dC ?_
   refine RL.gno rfl rfl (bool_eq hb24) rfl dC ?_
   refine rV (r_pick_t (v := (.bool true)) (bool_eq hb24) rfl) (mV (v := (.bool true)) rfl ?_)
   refine RL.gno rfl rfl rfl rfl dC ?_
   refine RL.gno rfl rfl rfl rfl dC ?_
   refine RL.gno rfl rfl rfl rfl dC ?_
   refine RL.gno rfl rfl rfl rfl dC ?_
   refine rV (r_pick_t (v := (.bool true)) rfl rfl) (RL.nil ?_)
   refine wcond_t rfl ?_
   refine wsr (aS (v := (.bool false)) rfl (RL.nil ?_))
   refine wret ?_
   refine ⟨[(.bool false)], ⟨rfl, trivial⟩, ?_⟩
   exact ⟨⟨_, rfl, (fun h => by cases h), fun h => absurd h (by first | exact isp_dup hkl hin | exact isp_no hkl oM)⟩, hE⟩
  have hlow := hb24p
  refine RL.gval rfl rfl (bool_eq hb24) rfl dC (r_move_as (v := (iv (p.getD (k) default))) rfl) ?_
  refine RL.gval rfl rfl (bool_eq hb24) rfl dC (r_move_as (v := vp) ((hoff16 0 rfl).trans ((hF13 0).trans (hF0 0)))) ?_
  refine RL.gval rfl rfl (bool_eq hb24) rfl dC (r_len uT23 hv3) ?_
  refine RL.gval rfl rfl (bool_eq hb24) rfl dC (r_geq (k := .i64) (a := p.getD (k) default) (b := ((p.length : Nat) : Int)) rfl rfl) ?_
  refine rV (r_pick_f (v := (bd (((p.length : Nat) : Int) ≤ (p.getD (k) default)))) (bool_eq hb24) rfl) (mV (v := (bd (((p.length : Nat) : Int) ≤ (p.getD (k) default)))) rfl ?_)
  rcases bD (((p.length : Nat) : Int) ≤ (p.getD (k) default)) with ⟨hb25, hb25p⟩ | ⟨hb25, hb25p⟩
  ·have hbad := hb25p
   refine RL.gno rfl rfl (bool_eq hb25) rfl dC ?_
   refine RL.gno rfl rfl (bool_eq hb25) rfl dC ?_
   refine RL.gno rfl rfl (bool_eq hb25) rfl dC ?_
   refine RL.gno rfl rfl (bool_eq hb25) rfl dC ?_
   refine rV (r_pick_t (v := (.bool true)) (bool_eq hb25) rfl) (RL.nil ?_)
   refine wcond_t rfl ?_
   refine wsr (aS (v := (.bool false)) rfl (RL.nil ?_))
   refine wret ?_
   refine ⟨[(.bool false)], ⟨rfl, trivial⟩, ?_⟩
   exact ⟨⟨_, rfl, (fun h => by cases h), fun h => absurd h (by first | exact isp_dup hkl hin | exact isp_no hkl oM)⟩, hE⟩
  have hhigh := hb25p
  refine RL.gval rfl rfl (bool_eq hb25) rfl dC (r_move_as (v := (.slice (some ⟨b7, 0, none⟩) (p.length) (p.length))) ((hoff16 3 rfl).trans (hF13 3))) ?_
  refine RL.gval rfl rfl (bool_eq hb25) rfl dC (r_move_as (v := (iv (p.getD (k) default))) rfl) ?_
  refine RL.gval rfl rfl (bool_eq hb25) rfl dC (r_indexAddr (i := p.getD (k) default) uT74 ty4 rfl rfl oM oM) ?_
  have hc26 := hb9.cell (i := p.getD (k) default) ((p.getD (k) default).toNat) oM oM
  refine RL.gval rfl rfl (bool_eq hb25) rfl dC (r_load (v := (.bool (sn.getD ((p.getD (k) default).toNat) default))) uT4 ag4 rfl hc26) ?_
  refine rV (r_pick_f (v := (.bool (sn.getD ((p.getD (k) default).toNat) default))) (bool_eq hb25) rfl) (RL.nil ?_)
  refine wcond (b := sn.getD ((p.getD (k) default).toNat) default) rfl (fun hb27 => ?_) (fun hb27 => ?_)
  ·have hb27p := hb27
   have hsk := hb27p
   rw [hs _ oM] at hsk
   have hin := of_decide_eq_true hsk
   rw [show (((p.getD (k) default).toNat : Nat) : Int) = p.getD k default by omega] at hin
   refine wsr (aS (v := (.bool false)) rfl (RL.nil ?_))
   refine wret ?_
   refine ⟨[(.bool false)], ⟨rfl, trivial⟩, ?_⟩
   exact ⟨⟨_, rfl, (fun h => by cases h), fun h => absurd h (by first | exact isp_dup hkl hin | exact isp_no hkl oM)⟩, hE⟩
  have hb27p := hb27
  have hsk := hb27p
  rw [hs _ oM] at hsk
  have hni := of_decide_eq_false hsk
  rw [show (((p.getD (k) default).toNat : Nat) : Int) = p.getD k default by omega] at hni
  refine wskip ?_
  refine wregion (mV (v := (.slice (some ⟨b7, 0, none⟩) (p.length) (p.length))) ((hoff16 3 rfl).trans (hF13 3)) (mV (v := (iv (p.getD (k) default))) rfl (rV (r_indexAddr (i := p.getD (k) default) uT74 ty4 rfl rfl oM oM) ?_)))
  refine RL.runs rfl rfl (h_setF (g := gB) (vv := (.bool true)) (u := true) (i := p.getD (k) default) ty4 rfl rfl rfl rfl rfl hb9 ((p.getD (k) default).toNat) oM oM) ?_
  rintro w28 ⟨ha29, hx30⟩
  replace hE := hE.nb hx30 ge_b7
  have nb_hx30 := (hb9.nb (fun _ => rfl))
  replace hb9 := ha29
  refine RL.nil (wregion (rV (r_add (k := .i64) (a := (k : Int)) (b := 1) (c := (k : Int) + 1) hs17 rfl (wi64 oM)) (mV (v := (iv ((k : Int) + 1))) rfl (RL.nil ?_))))
  replace hp := hp.tr (Sm.exc hx30 (fun _ _ _ _ hd => absurd hd.2 (Nat.not_lt_of_le ge_b7)))
  refine ⟨(k + 1, sn.set (p.getD (k) default).toNat true), ⟨?_, ?_, ?_, ?_, ?_, ?_, ?_, ?_, ?_, ?_⟩, ?_⟩
  · exact (by repeat (first | exact hoff16 | refine Off.st ?_ dC _))
  · first | rfl | exact int_eq oM | exact bool_eq (by simp)
  · omega
  · rw [take_snoc p k hkl]; intro x hx; rcases List.mem_append.1 hx with h | h; exact hr x h; rw [List.mem_singleton.1 h]; exact ⟨by omega, by omega⟩
  · rw [take_snoc p k hkl, List.nodup_append]; exact ⟨hnd, by simp, fun a ha b hb => by rw [List.mem_singleton.1 hb]; exact fun he => hni (he ▸ ha)⟩
  · exact seen_next hkl oM oM hsl hs
  · rw [List.length_set]; exact hsl
  · exact hb9
  · exact hp
  · exact hE
  (try dsimp only)
  omega
 refine wexit ?_
 refine wsr (aS (v := (.bool true)) rfl (RL.nil ?_))
 refine wret ?_
 refine ⟨[(.bool true)], ⟨rfl, trivial⟩, ?_⟩
 rw [List.take_of_length_le oM] at hr hnd
 exact ⟨⟨_, rfl, (fun _ => ⟨hr, hnd⟩), fun _ => rfl⟩, hE⟩
end Go.Proofs.YtelbjmhhbeijkaaGreat
namespace Go.Proofs.YtelbjmhhbeijkaaGreat
open Go.Vg Go.RowKit Go.Shelf _root_.Go.Proofs.Tryz
def rhoL : Ren := ⟨fun n => if n = 125 then 51 else if n = 128 then 79 else if n = 129 then 80 else 0, fun n => if n = 3 then 3 else if n = 4 then 4 else if n = 5 then 5 else if n = 9 then 9 else if n = 46 then 77 else if n = 51 then 89 else if n = 53 then 73 else 0, fun x => x⟩
theorem lays125 : Lays.n125 Tryz.prog rhoL := by
  constructor <;> first | kernel_rfl | (intro w; kernel_rfl)
theorem len_spec {x : Int} (w : World) (h0 : 0 ≤ x) (h1 : x ≤ 18446744073709551615) : Calls Tryz.prog 51 #[.int .u64 x] w fun e w' => ∃ v, e = .returned v ∧ (∃ s : Nat, v = .int .i64 (s : Int)) ∧ w = w' := by
  refine (Any.bits_Len lays125 x w h0 h1).mono ?_
  rintro e w' ⟨rfl, rfl⟩
  exact ⟨_, rfl, ⟨_, rfl⟩, rfl⟩
end Go.Proofs.YtelbjmhhbeijkaaGreat
namespace Go.Proofs.YtelbjmhhbeijkaaGreat
open Go.Vg Go.RowKit _root_.Go.Proofs.Tryz
set_option linter.unusedVariables false
open Go.Vm
set_option maxHeartbeats 1000000 in
theorem pdq_ent {post : List Value} {b n cap : Nat} {xs : List EC} {w : World} {kc : Nat} {cl : List Value} {key : EC → Int} {ok : EC → Prop} {w0 : World} (hent : Ent Tryz.prog kc) (hcmp : CmpOk Tryz.prog kc cl encE key ok b w0) (hw0 : Exc b w0 w) {lim : Int} (ha : Ae post w b 55 xs n) (hsz : n ≤ 4611686018427387903) (hok : ∀ x ∈ xs, ok x) (h12 : n ≤ 12) :
    Calls Tryz.prog 50 #[(.slice (some ⟨b, 0, none⟩) (n) (cap)), (iv 0), (iv n), (iv lim), (.func (.func kc) #[] cl.toArray)] w fun e w' => ∃ v, e = .returned v ∧ v = .tuple #[] ∧ (∃ l, Ae post w' b 55 l n ∧ Srt key l ∧ StE key xs l) ∧ Exc b w w' := by
 have hE : Exc b w w := Exc.of_ext (Ext.refl _)
 refine calls_of (n := 148) (rs := []) func50 rfl rfl rfl bL ?_
 refine wset fun F0 hF0 => ?_
 refine wsr (aS (v := (.bool true)) rfl (RL.nil (wsr (aS (v := (.bool true)) rfl (RL.nil ?_)))))
 refine wblock ?_
 refine wset fun F1 hF2 => ?_
 refine wloop (σ := Nat) (fun (z : Nat) fl wl => Off (rg 1 3 (rg 10 138 [])) F1 fl ∧ fl 1 = (iv 0) ∧ fl 2 = (iv n) ∧ fl 10 = (.bool true) ∧ fl 11 = (.bool true) ∧ (Ae post wl b 55 xs n) ∧ (Exc b w wl)) (fun (z : Nat) => z) (0) ?_ ?_
 ·exact ⟨Off.refl _ _, (hF2 1).trans (((hF0 1)).trans rfl), (hF2 2).trans (((hF0 2)).trans rfl), (hF2 10).trans (rfl), (hF2 11).trans (rfl), ha, hE⟩
 clear ha hE
 rintro z f3 w4 ⟨hoff5, hs6, hs7, hs8, hs9, ha, hE⟩
 refine wblock ?_
 refine wsr (mV hs7 (mV hs6 (rV (r_sub (k := .i64) (a := (n : Int)) (b := 0) (c := (n : Int)) rfl rfl ((wi64 oM).trans oM)) (aS (v := (iv n)) rfl (RL.nil (wseq (wsr (mV (v := (iv n)) rfl (rV (r_leq (k := .i64) (a := (n : Int)) (b := 12) rfl rfl) (RL.nil ?_))))))))))
 refine wcD (p := (n : Int) ≤ 12) rfl (fun hb10 hb10p => ?_) (fun hb10 hb10p => ?_)
 ·refine wsr ?_
  refine mV (v := (.slice (some ⟨b, 0, none⟩) (n) (cap))) ((hoff5 0 rfl).trans ((hF2 0).trans (hF0 0))) (mV hs6 (mV hs7 (mV (v := (.func (.func kc) #[] cl.toArray)) ((hoff5 4 rfl).trans ((hF2 4).trans (hF0 4))) ?_)))
  refine RL.call rfl rfl dC (r_call (vl := [(.slice (some ⟨b, 0, none⟩) (n) (cap)), (iv 0), (iv n), (.func (.func kc) #[] cl.toArray)]) ent71 rfl) (insertion_ent (LA := []) (LS := xs) (LB := []) (a := 0) (c := n) hent hcmp (hw0.trans hE) ha hsz (by simp) rfl (by have := ha.len; omega) hok) ?_
  rintro _ w11 ⟨rfl, ⟨M0, ha12, hs0, ht0⟩, hx13⟩
  replace hE := hE.trans hx13
  replace ha := ha12
  refine RL.nil ?_
  refine wret ?_
  refine ⟨[], trivial, ?_⟩
  exact ⟨rfl, ⟨M0, by simpa using ha, hs0, ht0⟩, hE⟩
 exact absurd hb10p oM
set_option maxHeartbeats 1000000 in
theorem sort_ent {post : List Value} {b n cap : Nat} {xs : List EC} {w : World} {kc : Nat} {cl : List Value} {key : EC → Int} {ok : EC → Prop} {w0 : World} (hent : Ent Tryz.prog kc) (hcmp : CmpOk Tryz.prog kc cl encE key ok b w0) (hw0 : Exc b w0 w) (ha : Ae post w b 55 xs n) (hsz : n ≤ 4611686018427387903) (hok : ∀ x ∈ xs, ok x) (h12 : n ≤ 12) :
    Calls Tryz.prog 29 #[(.slice (some ⟨b, 0, none⟩) (n) (cap)), (.func (.func kc) #[] cl.toArray)] w fun e w' => ∃ v, e = .returned v ∧ v = .tuple #[] ∧ (∃ l, Ae post w' b 55 l n ∧ Srt key l ∧ StE key xs l) ∧ Exc b w w' := by
 have hE : Exc b w w := Exc.of_ext (Ext.refl _)
 refine calls_of (n := 14) (rs := []) func29 rfl rfl rfl bL ?_
 refine wset fun F0 hF0 => ?_
 refine wsr (mV (v := (.slice (some ⟨b, 0, none⟩) (n) (cap))) (hF0 0) (rV (r_len uT22 rfl) (aS (v := (iv n)) rfl (RL.nil (wregion (mV (v := (.slice (some ⟨b, 0, none⟩) (n) (cap))) (hF0 0) (mV (v := (iv n)) rfl (mV (v := (iv n)) rfl (rV (r_conv (k := .u64) (a := (n : Int)) (c := (n : Int)) uT3 uT77 rfl (wu64 oM)) ?_)))))))))
 refine cL ent51 (len_spec (x := (n : Int)) _ oM oM) rfl ?_
 rintro _ _ ⟨⟨lm, rfl⟩, rfl⟩
 refine mV (v := (.func (.func kc) #[] cl.toArray)) (hF0 1) ?_
 refine RL.call rfl rfl dC (r_call (vl := [(.slice (some ⟨b, 0, none⟩) (n) (cap)), (iv 0), (iv n), (iv lm), (.func (.func kc) #[] cl.toArray)]) ent50 rfl) (pdq_ent hent hcmp hw0 ha hsz hok h12) ?_
 rintro _ w2 ⟨rfl, hl, hx⟩
 refine RL.nil ?_
 refine ⟨[], trivial, ?_⟩
 exact ⟨rfl, hl, hx⟩
end Go.Proofs.YtelbjmhhbeijkaaGreat
namespace Go.Proofs.YtelbjmhhbeijkaaGreat
open Go.Vg Go.RowKit _root_.Go.Proofs.Tryz
set_option linter.unusedVariables false
open Go.Vm
def pmL (p : List Int) (es : List Ent') : List Ent' := es.map fun e => (p.getD e.1.toNat default, e.2)
theorem get_mem {es : List En} (ha : Asc es) {e : En} (he : e ∈ es) : get es e.1 = e.2 := by
  induction es with
  | nil => cases he
  | cons x es ih =>
    rcases List.mem_cons.1 he with rfl | h
    · exact get_head ha
    rw [get_cons_ne (by have := ha.head e h; omega)]; exact ih ha.tail h
theorem pm_at {p : List Int} {rs cs : List Ent'} {k : Nat} (hk : k < rs.length) (hcs : cs = pmL p (rs.take k) ++ rs.drop k) : cs.getD k default = rs.getD k default := by
  have hl : (pmL p (rs.take k)).length = k := by unfold pmL; rw [List.length_map, List.length_take]; omega
  rw [hcs, List.getD_eq_getElem?_getD, List.getElem?_append_right oM, hl, Nat.sub_self, List.getElem?_drop, Nat.add_zero, ← List.getD_eq_getElem?_getD]
theorem pm_step {p : List Int} {rs cs : List Ent'} {k : Nat} (hk : k < rs.length) (hcs : cs = pmL p (rs.take k) ++ rs.drop k) : cs.set k (p.getD (rs.getD k default).1.toNat default, (rs.getD k default).2) = pmL p (rs.take (k + 1)) ++ rs.drop (k + 1) := by
  have hl : (pmL p (rs.take k)).length = k := by unfold pmL; rw [List.length_map, List.length_take]; omega
  rw [hcs, take_snoc rs k hk, drop_cons rs k hk, List.set_append_right _ _ oM, hl, Nat.sub_self]
  unfold pmL
  simp
theorem wk_asc {S : List En} (hw : Wk S) (hn : (S.map Prod.fst).Nodup) : Asc S := by
  have h2 : S.Pairwise fun a b => a.1 ≠ b.1 := List.pairwise_map.1 hn
  exact (hw.and h2).imp fun ⟨h1, h2⟩ => by omega
theorem pm_fin {p : List Int} {rs S : List Ent'} (hp : IsP p) (ha : Asc rs) (hz : NonZ rs) (hin : ∀ e ∈ rs, 0 ≤ e.1 ∧ e.1 < (p.length : Int)) (hpm : (pmL p rs).Perm S) (hw : Wk S) : Asc S ∧ NonZ S := by
  constructor
  · refine wk_asc hw ?_
    refine (hpm.map Prod.fst).nodup_iff.1 ?_
    unfold pmL
    rw [List.map_map]
    refine List.pairwise_map.2 ?_
    refine (List.Pairwise.and_mem.1 ha).imp fun {a b} ⟨h1, h2, h3⟩ he => ?_
    have hp2 := List.pairwise_iff_getElem.1 hp.2
    have a1 := hin a h1
    have b1 := hin b h2
    have := hp2 a.1.toNat b.1.toNat oM oM oM
    apply this
    have he' : p.getD a.1.toNat default = p.getD b.1.toNat default := he
    rw [List.getD_eq_getElem?_getD, List.getD_eq_getElem?_getD, List.getElem?_eq_getElem oM, List.getElem?_eq_getElem oM] at he'
    exact he'
  intro e he
  have := hpm.mem_iff.2 he
  unfold pmL at this
  obtain ⟨x, hx, rfl⟩ := List.mem_map.1 this
  exact hz x hx
set_option maxHeartbeats 4000000 in
theorem v_permute {w : World} {L : Nat} {Dx : Nat → TypeId → Prop} {vx : Value} {x : List Ent'} (hx0 : Es L Dx w vx x) {M : Nat} (hfx : (Asc x ∧ L ≤ M) ∨ (x.length + 1) * (L + 3) ≤ M) (hlx : x.length ≤ 524288) (hM : M ≤ 8589934000) {Dp : Nat → TypeId → Prop} {vp : Value} {p : List Int} (hp0 : Sg (gI .i64) Dp w vp p) (lnp : p.length ≤ 1048576) (h12 : ∀ r : List Ent', Asc r → NonZ r → (∀ i, get r i = get x i) → r.length ≤ 12) :
    Calls Tryz.prog 11 #[vx, vp] w fun e w' => ∃ v, e = .returned v ∧ (∃ vr ok, v = .tuple #[vr, .bool ok] ∧ ((ok = false ∧ vr = .slice none 0 0 ∧ ¬ (IsP p ∧ ∀ i, get x i ≠ 0 → 0 ≤ i ∧ i < (p.length : Int))) ∨ (ok = true ∧ (IsP p ∧ ∀ i, get x i ≠ 0 → 0 ≤ i ∧ i < (p.length : Int)) ∧ ∃ r0 rs, Ec (M + 1) (fun b _ => w.heap.size ≤ b) w' vr rs ∧ Asc rs ∧ NonZ rs ∧ (∀ i, get rs i = get (pmL p r0) i) ∧ Asc r0 ∧ NonZ r0 ∧ ∀ i, get r0 i = get x i))) ∧ Ext w w' := by
 have hE : Below w.heap.size w w := Below.refl _ _
 have hx := hx0.old
 clear hx0
 have hp := hp0.old
 clear hp0
 refine calls_of (n := 44) (rs := [.tmp 4, .tmp 5]) func11 rfl rfl rfl bL ?_
 refine wset fun F0 hF0 => ?_
 refine wsr (aS (v := (.slice none (0) (0))) rfl (aS (v := (.bool false)) rfl (RL.nil (wseq (wsr (mV (v := vp) (hF0 1) ?_))))))
 refine cL ent27 (v_isp hp oM) rfl ?_
 rintro _ w1 ⟨⟨r, rfl, hisp⟩, he2⟩
 replace hE := hE.nx he2
 refine rV (r_not rfl) (RL.nil ?_)
 refine wcond (b := !r) rfl (fun hb3 => ?_) (fun hb3 => ?_)
 ·have hb3p := hb3
  have hr0 : r = false := by simpa using hb3
  refine wsr (aS (v := (.slice none (0) (0))) rfl (aS (v := (.bool false)) rfl (RL.nil ?_)))
  refine wret ?_
  refine ⟨[(.slice none (0) (0)), (.bool false)], ⟨rfl, ⟨rfl, trivial⟩⟩, ?_⟩
  exact ⟨⟨_, _, rfl, .inl ⟨rfl, rfl, fun h => by first | exact absurd (hisp.2 h.1) (by rw [hr0]; decide) | exact hout h⟩⟩, hE⟩
 have hb3p := hb3
 have hip : IsP p := hisp.1 (by simpa using hb3)
 refine wskip ?_
 refine wsr (mV (v := vx) (hF0 0) ?_)
 replace hx := hx.tr (Sm.ext he2)
 refine cL ent28 (v_norm (x := x) (L := L) (M := M) hx hfx oM oM) rfl ?_
 rintro vn6 w4 ⟨⟨rs7, ho8, ha9, hz10, hg11, hl12, hw13⟩, he5⟩
 replace ho8 := Oe.fr (D' := (fun b T => w.heap.size ≤ b ∧ T = 89)) (lo' := w.heap.size) ho8 hE.size (fun _ _ h => ⟨Nat.le_trans hE.size h.1, h.2⟩)
 replace hE := hE.nx he5
 refine aS (v := vn6) rfl (RL.nil (wseq (wseq ?_)))
 obtain ⟨bC, capC, hvC, ge_bC, hc1, hc2, hap⟩ := ho8.ap2 hw13
 subst hvC
 refine wregion (mV (v := (.slice (some ⟨bC, 0, none⟩) (rs7.length) (capC))) rfl (rV (r_len uT22 rfl) (mV (v := (iv 0)) rfl (RL.nil ?_))))
 refine wblock ?_
 refine wset fun F14 hF15 => ?_
 refine wloop (σ := Nat × List Ent') (fun (s : Nat × List Ent') fl wl => match s with | (k, cs) => Off (rg 4 2 (rg 7 2 (rg 16 25 []))) F14 fl ∧ fl 16 = (iv k) ∧ (k ≤ rs7.length) ∧ (cs = pmL p (rs7.take k) ++ rs7.drop k) ∧ (∀ e ∈ rs7.take k, 0 ≤ e.1 ∧ e.1 < (p.length : Int)) ∧ (Ap (M + 1) (fun b T => w.heap.size ≤ b ∧ T = 89) wl bC 55 cs rs7.length) ∧ (Es L (fun b T => Dx b T ∧ b < w.heap.size) wl vx x) ∧ (Below w.heap.size w wl) ∧ (Sg (gI .i64) (fun b T => Dp b T ∧ b < w.heap.size) wl vp p)) (fun (s : Nat × List Ent') => match s with | (k, cs) => rs7.length - k) (0, rs7) ?_ ?_
 ·replace hx := hx.tr (Sm.ext he5)
  replace hp := hp.tr (Sm.ext (Ext.trans he2 he5))
  exact ⟨Off.refl _ _, (hF15 16).trans (rfl), Nat.zero_le _, (by simp [pmL]), (fun e he => by simp at he), hap, hx, hE, hp⟩
 clear hx hE hp hap
 rintro ⟨k, cs⟩ f16 w17 ⟨hoff18, hs19, hk, hcs, hin, hap, hx, hE, hp⟩
 refine wsr (rV (r_lss (k := .i64) (a := (k : Int)) (b := ((rs7.length : Nat) : Int)) hs19 ((hoff18 15 rfl).trans (hF15 15))) (RL.nil (wseq ?_)))
 refine wcD (p := (k : Int) < ((rs7.length : Nat) : Int)) rfl (fun hb20 hb20p => ?_) (fun hb20 hb20p => ?_)
 ·refine wskip ?_
  refine wseq ?_
  refine wblock ?_
  refine wseq ?_
  have hkl : k < rs7.length := by omega
  have hck := pm_at hkl hcs
  refine wregion (mV hs19 (rV (r_indexAddr (i := (k : Int)) uT22 ty55 ((hoff18 14 rfl).trans (hF15 14)) hs19 oM oM) ?_))
  obtain ⟨A22, B23, hc21, hx24, hd25, ln26, ln27⟩ := hap.ix (i := (k : Int)) (k) oM oM
  refine rV (r_loada (cs := [(iv ((cs.getD (k) default).1)), (bd ((cs.getD (k) default).2.num < 0)), (sv A22), (sv B23)]) uT55 ag55 ty55 rfl hc21) ?_
  refine rU (h_alloc (cs := [(iv 0), (.bool false), (.slice none 0 0), (.slice none 0 0)]) ty55 rfl) ?_
  rintro _ w28 ⟨b29, rfl, hs32, hb31, he30⟩
  have lt_bC_b29 := Nat.lt_of_lt_of_eq hap.lt hs32.symm
  have ge_b29 := hE.ge hs32
  replace hE := hE.nx he30
  refine aS (v := (iv k)) rfl ?_
  refine RL.runs rfl rfl (h_store (vv := (.agg #[(iv ((cs.getD (k) default).1)), (bd ((cs.getD (k) default).2.num < 0)), (sv A22), (sv B23)])) (cs := [(iv ((cs.getD (k) default).1)), (bd ((cs.getD (k) default).2.num < 0)), (sv A22), (sv B23)]) (o := 0) ty55 rfl rfl rfl rfl (one_cons rfl (one_cons rfl (one_cons hx24.one (one_cons hd25.one one_nil)))) hb31 bL) ?_
  rintro w33 ⟨hn34, hx35, hz36⟩
  replace hE := hE.nb hx35 ge_b29
  have nb_hx35 := (Nb.of hb31 (nu_cons rfl (nu_cons rfl (nu_cons rfl (nu_cons rfl nu_nil)))))
  replace hb31 : Bk w33 b29 55 [(iv ((cs.getD (k) default).1)), (bd ((cs.getD (k) default).2.num < 0)), (sv A22), (sv B23)] := hn34
  refine RL.nil (wseq (wsr (rV (r_fieldAddr uT55 rfl ty3 rfl) ?_)))
  have hc37 := hb31.cell (j := 0) (u := (iv ((cs.getD (k) default).1))) rfl
  refine rV (r_load uT3 ag3 rfl hc37) (rV (r_lss (k := .i64) (a := (cs.getD (k) default).1) (b := 0) rfl rfl) (mV (v := (bd (((cs.getD (k) default).1) < 0))) rfl ?_))
  rcases bD (((cs.getD (k) default).1) < 0) with ⟨hb38, hb38p⟩ | ⟨hb38, hb38p⟩
  ·have hbad := hb38p
   refine RL.gno rfl rfl (bool_eq hb38) rfl dC ?_
   refine RL.gno rfl rfl (bool_eq hb38) rfl dC ?_
   refine RL.gno rfl rfl (bool_eq hb38) rfl dC ?_
   refine RL.gno rfl rfl (bool_eq hb38) rfl dC ?_
   refine RL.gno rfl rfl (bool_eq hb38) rfl dC ?_
   refine rV (r_pick_t (v := (.bool true)) (bool_eq hb38) rfl) (RL.nil ?_)
   refine wcond_t rfl ?_
   refine wseq ?_
   have hout : ¬ (IsP p ∧ ∀ i, get x i ≠ 0 → 0 ≤ i ∧ i < (p.length : Int)) := fun h => by
     have h1 := hg11 (rs7.getD k default).1
     rw [get_mem ha9 (getD_mem _ _ hkl)] at h1
     have h2 := h.2 (rs7.getD k default).1 (by rw [← h1]; exact hz10 _ (getD_mem _ _ hkl))
     rw [← hck] at h2
     first | omega | (have h3 := h2.1; have h4 := h2.2; omega)
   refine wregion (aS (v := (.slice none (0) (0))) rfl (aS (v := (.bool false)) rfl (RL.nil ?_)))
   refine wret ?_
   refine ⟨[(.slice none (0) (0)), (.bool false)], ⟨rfl, ⟨rfl, trivial⟩⟩, ?_⟩
   exact ⟨⟨_, _, rfl, .inl ⟨rfl, rfl, fun h => by first | exact absurd (hisp.2 h.1) (by rw [hr0]; decide) | exact hout h⟩⟩, hE⟩
  have hlow := hb38p
  refine RL.gval rfl rfl (bool_eq hb38) rfl dC (r_fieldAddr uT55 rfl ty3 rfl) ?_
  have hc39 := hb31.cell (j := 0) (u := (iv ((cs.getD (k) default).1))) rfl
  refine RL.gval rfl rfl (bool_eq hb38) rfl dC (r_load uT3 ag3 rfl hc39) ?_
  refine RL.gval rfl rfl (bool_eq hb38) rfl dC (r_move_as (v := vp) ((hoff18 1 rfl).trans ((hF15 1).trans (hF0 1)))) ?_
  obtain ⟨A40, c41, hv42, hc43, hc44⟩ := hp.len
  refine RL.gval rfl rfl (bool_eq hb38) rfl dC (r_len uT23 hv42) ?_
  refine RL.gval rfl rfl (bool_eq hb38) rfl dC (r_geq (k := .i64) (a := (cs.getD (k) default).1) (b := ((p.length : Nat) : Int)) rfl rfl) ?_
  refine rV (r_pick_f (v := (bd (((p.length : Nat) : Int) ≤ ((cs.getD (k) default).1)))) (bool_eq hb38) rfl) (RL.nil ?_)
  refine wcD (p := ((p.length : Nat) : Int) ≤ ((cs.getD (k) default).1)) rfl (fun hb45 hb45p => ?_) (fun hb45 hb45p => ?_)
  ·refine wseq ?_
   have hout : ¬ (IsP p ∧ ∀ i, get x i ≠ 0 → 0 ≤ i ∧ i < (p.length : Int)) := fun h => by
     have h1 := hg11 (rs7.getD k default).1
     rw [get_mem ha9 (getD_mem _ _ hkl)] at h1
     have h2 := h.2 (rs7.getD k default).1 (by rw [← h1]; exact hz10 _ (getD_mem _ _ hkl))
     rw [← hck] at h2
     first | omega | (have h3 := h2.1; have h4 := h2.2; omega)
   refine wregion (aS (v := (.slice none (0) (0))) rfl (aS (v := (.bool false)) rfl (RL.nil ?_)))
   refine wret ?_
   refine ⟨[(.slice none (0) (0)), (.bool false)], ⟨rfl, ⟨rfl, trivial⟩⟩, ?_⟩
   exact ⟨⟨_, _, rfl, .inl ⟨rfl, rfl, fun h => by first | exact absurd (hisp.2 h.1) (by rw [hr0]; decide) | exact hout h⟩⟩, hE⟩
  have hhigh := hb45p
  refine wskip ?_
  refine wregion (mV (v := (.slice (some ⟨bC, 0, none⟩) (rs7.length) (capC))) ((hoff18 6 rfl).trans (hF15 6)) (mV (v := (iv k)) rfl (mV (v := vp) ((hoff18 1 rfl).trans ((hF15 1).trans (hF0 1))) (rV (r_fieldAddr uT55 rfl ty3 rfl) ?_))))
  have hc46 := hb31.cell (j := 0) (u := (iv ((cs.getD (k) default).1))) rfl
  refine rV (r_load uT3 ag3 rfl hc46) ?_
  replace hp := (hp.tr (Sm.ext he30)).tr (Sm.exc hx35 (fun _ _ _ _ hd => absurd hd.2 (Nat.not_lt_of_le ge_b29)))
  obtain ⟨b47, o48, c49, hv50, hc51⟩ := hp.ix (i := (cs.getD (k) default).1) ((cs.getD (k) default).1.toNat) oM oM
  refine rV (r_indexAddr (i := (cs.getD (k) default).1) uT23 ty3 hv50 rfl oM oM) (rV (r_load (v := (iv (p.getD ((cs.getD (k) default).1.toNat) default))) uT3 ag3 rfl hc51) (rV (r_indexAddr (i := (k : Int)) uT22 ty55 rfl rfl oM oM) (rV (r_fieldAddr uT55 rfl ty3 rfl) ?_)))
  replace hap := (hap.ext he30).apn hx35 (Nat.ne_of_lt lt_bC_b29) nb_hx35
  refine RL.runs rfl rfl (h_setPi (i := (k : Int)) ty3 rfl rfl hap (fun h => absurd h.2 dC) (k) oM oM) ?_
  rintro w52 ⟨ha53, hx54⟩
  replace hE := hE.nb hx54 ge_bC
  replace hap := ha53
  refine RL.nil (wregion (rV (r_add (k := .i64) (a := (k : Int)) (b := 1) (c := (k : Int) + 1) hs19 rfl (wi64 oM)) (mV (v := (iv ((k : Int) + 1))) rfl (RL.nil ?_))))
  replace hx := ((hx.tr (Sm.ext he30)).tr (Sm.exc hx35 (fun _ _ _ _ hd => absurd hd.2 (Nat.not_lt_of_le ge_b29)))).tr (Sm.exc hx54 (fun _ _ _ _ hd => absurd hd.2 (Nat.not_lt_of_le ge_bC)))
  replace hp := hp.tr (Sm.exc hx54 (fun _ _ _ _ hd => absurd hd.2 (Nat.not_lt_of_le ge_bC)))
  refine ⟨(k + 1, (cs.set (k) (p.getD ((cs.getD (k) default).1.toNat) default, (cs.getD (k) default).2))), ⟨?_, ?_, ?_, ?_, ?_, ?_, ?_, ?_, ?_⟩, ?_⟩
  · exact (by repeat (first | exact hoff18 | refine Off.st ?_ dC _))
  · first | rfl | exact int_eq oM | exact bool_eq (by simp)
  · omega
  · rw [hck]; exact pm_step hkl hcs
  · rw [take_snoc rs7 k hkl]; intro e he; rcases List.mem_append.1 he with h | h; exact hin e h; rw [List.mem_singleton.1 h]; rw [hck] at hlow hhigh; exact ⟨by omega, by omega⟩
  · exact hap
  · exact hx
  · exact hE
  · exact hp
  (try dsimp only)
  omega
 refine wexit ?_
 refine wseq ?_
 have hcov : ∀ i, get rs7 i ≠ 0 → 0 ≤ i ∧ i < (p.length : Int) := fun i hi => by
   rcases Classical.em (∃ e ∈ rs7, e.1 = i) with ⟨e, he, rfl⟩ | hno
   · exact hin e (by rw [List.take_of_length_le oM]; exact he)
   exact absurd (get_none fun e he h => hno ⟨e, he, h⟩) hi
 have hr12 := h12 rs7 ha9 hz10 hg11
 refine wregion (mV (v := (.slice (some ⟨bC, 0, none⟩) (rs7.length) (capC))) ((hoff18 6 rfl).trans (hF15 6)) ?_)
 obtain ⟨xs0, post0, hae, hfe⟩ := id hap
 refine RL.call rfl rfl dC (r_call (vl := [(.slice (some ⟨bC, 0, none⟩) (rs7.length) (capC)), (.func (.func 30) #[] #[])]) ent29 rfl) (sort_ent (key := fun x : EC => x.1) (ok := fun _ => True) (cl := []) ent30 byidx_ok (Exc.of_ext (Ext.refl _)) hae oM (fun _ _ => trivial) oM) ?_
 rintro _ w55 ⟨rfl, ⟨l0, hl0, hsr, hst0⟩, hx56⟩
 replace hE := hE.nb hx56 ge_bC
 obtain ⟨S0, hS0, hprm, hwk⟩ := sort_liftP hfe hae (fun h => absurd h.2 dC) hx56 hl0 hsr hst0
 replace hap := hS0
 refine RL.nil (wsr (mV (v := (.slice (some ⟨bC, 0, none⟩) (rs7.length) (capC))) ((hoff18 6 rfl).trans (hF15 6)) (aS (v := (.slice (some ⟨bC, 0, none⟩) (rs7.length) (capC))) rfl (aS (v := (.bool true)) rfl (RL.nil ?_)))))
 refine wret ?_
 refine ⟨[(.slice (some ⟨bC, 0, none⟩) (rs7.length) (capC)), (.bool true)], ⟨rfl, ⟨rfl, trivial⟩⟩, ?_⟩
 have hne := pm_fin hip ha9 hz10 (fun e he => hin e (by rw [List.take_of_length_le oM]; exact he)) (by rw [hcs, List.take_of_length_le oM, List.drop_of_length_le oM, List.append_nil] at hprm; exact hprm) hwk
 have hgS : ∀ i, get S0 i = get (pmL p rs7) i := fun i => by rw [← get_perm hprm i, hcs, List.take_of_length_le oM, List.drop_of_length_le oM, List.append_nil]
 exact ⟨⟨_, _, rfl, .inr ⟨rfl, ⟨hip, fun i hi => (by rw [← hg11 i] at hi; exact hcov i hi)⟩, rs7, S0, hap.ec ge_bC (fun _ _ h => h.1) oM oM, hne.1, hne.2, hgS, ha9, hz10, hg11⟩⟩, hE⟩
end Go.Proofs.YtelbjmhhbeijkaaGreat
namespace Go.Proofs.YtelbjmhhbeijkaaGreat
open Go.Vg Go.RowKit _root_.Go.Proofs.Tryz
set_option linter.unusedVariables false
open Go.Vm
theorem awk_ok : IsP [2, 0, 1] ∧ ∀ i, get [(0, ((5 : Int) : Rat))] i ≠ 0 → 0 ≤ i ∧ i < (([2, 0, 1] : List Int).length : Int) := by
  refine ⟨⟨by decide, by decide⟩, fun i hi => ?_⟩
  rcases Classical.em ((0 : Int) = i) with h | h
  · subst h; decide
  exact absurd (get_none fun e he => by rw [List.mem_singleton.1 he]; exact h) hi
theorem awk12 : ∀ r : List Ent', Asc r → NonZ r → (∀ i, get r i = get [(0, ((5 : Int) : Rat))] i) → r.length ≤ 12 := fun r ha hz hg => by
  have h5 : ((5 : Int) : Rat) ≠ 0 := by decide
  rw [canon_ext r [(0, ((5 : Int) : Rat))] ha (by simp [Asc]) hz (fun e he => by rw [List.mem_singleton.1 he]; exact h5) hg]
  decide
theorem awk_perm {r0 rs : List Ent'} (hp : IsP [2, 0, 1] ∧ ∀ i, get [(0, ((5 : Int) : Rat))] i ≠ 0 → 0 ≤ i ∧ i < (([2, 0, 1] : List Int).length : Int)) (ha : Asc rs) (hz : NonZ rs) (hg : ∀ i, get rs i = get (pmL [2, 0, 1] r0) i) (ra : Asc r0) (rz : NonZ r0) (rg : ∀ i, get r0 i = get [(0, ((5 : Int) : Rat))] i) : rs = [(2, ((5 : Int) : Rat))] := by
  have h5 : ((5 : Int) : Rat) ≠ 0 := by decide
  have e := canon_ext r0 [(0, ((5 : Int) : Rat))] ra (by simp [Asc]) rz (fun e he => by rw [List.mem_singleton.1 he]; exact h5) rg
  subst e
  exact canon_ext _ _ ha (by simp [Asc]) hz (fun e he => by rw [List.mem_singleton.1 he]; exact h5) hg
theorem awk_norm {rs : List Ent'} (ha : Asc rs) (hz : NonZ rs) (hg : ∀ i, get rs i = get [(3, ((1 : Int) : Rat)), (1, ((2 : Int) : Rat)), (3, ((-1 : Int) : Rat))] i) : rs = [(1, ((2 : Int) : Rat))] := by
  have h2 : ((2 : Int) : Rat) ≠ 0 := by decide
  refine canon_ext _ _ ha (by simp [Asc]) hz (fun e he => by rw [List.mem_singleton.1 he]; exact h2) fun i => (hg i).trans ?_
  show (if (3 : Int) = i then ((1 : Int) : Rat) else 0) + ((if (1 : Int) = i then ((2 : Int) : Rat) else 0) + ((if (3 : Int) = i then ((-1 : Int) : Rat) else 0) + 0)) = (if (1 : Int) = i then ((2 : Int) : Rat) else 0) + 0
  by_cases h3 : (3 : Int) = i
  · rw [if_pos h3, if_pos h3, if_neg oM]; decide +kernel
  rw [if_neg h3, if_neg h3]; rw [Rat.add_zero, Rat.zero_add]
theorem awk_dot : dtF [(0, ((2 : Int) : Rat)), (5, ((3 : Int) : Rat))] [(5, ((4 : Int) : Rat)), (7, ((1 : Int) : Rat))] = ((12 : Int) : Rat) := by decide +kernel
set_option maxHeartbeats 1000000 in
theorem l_entry {w : World} {i k : Int} (hk : -9223372036854775808 ≤ k ∧ k ≤ 9223372036854775807) :
    Calls Tryz.prog 35 #[(iv i), (iv k)] w fun e w' => ∃ v, e = .returned v ∧ (∃ vn vd, v = .agg #[.int .i64 i, .bool (decide (((k : Int) : Rat).num < 0)), vn, vd] ∧ Rk 3 (fun b T => w.heap.size ≤ b ∧ T = 89) w' (decide (((k : Int) : Rat).num < 0), vn, vd) ((k : Int) : Rat)) ∧ Ext w w' := by
 have hE : Below w.heap.size w w := Below.refl _ _
 refine calls_of (n := 9) (rs := [.cell 4 55]) func35 rfl rfl rfl bL ?_
 refine wset fun F0 hF0 => ?_
 refine wsr ?_
 refine rU (h_alloc (cs := [(iv 0), (.bool false), (.slice none 0 0), (.slice none 0 0)]) ty55 rfl) ?_
 rintro _ w1 ⟨b2, rfl, hs5, hb4, he3⟩
 have ge_b2 := hE.ge hs5
 replace hE := hE.nx he3
 refine RL.nil (wsr (mV (v := (iv i)) (hF0 0) (mV (v := (iv k)) (hF0 1) ?_)))
 refine cL ent36 (r03_from oM) rfl ?_
 rintro _ w6 ⟨⟨vn8, vd10, rfl, hn9, hd11, hl12, hl13⟩, he7⟩
 have hlv14 := den_one ((k : Int) : Rat)
 replace hn9 := hn9.fr hE
 replace hd11 := hd11.fr hE
 replace hE := hE.nx he7
 refine rV (r_build (vl := [(0, (iv i)), (1, (.agg #[(bd (((k : Int) : Rat).num < 0)), vn8, vd10]))]) (cs := [(iv i), (bd (((k : Int) : Rat).num < 0)), vn8, vd10]) uT55 ty55 rfl (pl55 uT55) rfl) ?_
 replace hb4 := hb4.ext he7
 refine RL.runs rfl rfl (h_store (vv := (.agg #[(iv i), (bd (((k : Int) : Rat).num < 0)), vn8, vd10])) (cs := [(iv i), (bd (((k : Int) : Rat).num < 0)), vn8, vd10]) (o := 0) ty55 rfl rfl rfl rfl (one_cons rfl (one_cons rfl (one_cons hn9.one (one_cons hd11.one one_nil)))) hb4 bL) ?_
 rintro w15 ⟨hn16, hx17, hz18⟩
 replace hE := hE.nb hx17 ge_b2
 have nb_hx17 := (Nb.of hb4 (nu_cons rfl (nu_cons rfl (nu_cons rfl (nu_cons rfl nu_nil)))))
 replace hb4 : Bk w15 b2 55 [(iv i), (bd (((k : Int) : Rat).num < 0)), vn8, vd10] := hn16
 refine RL.nil ?_
 refine wret ?_
 refine ⟨[(.agg #[(iv i), (bd (((k : Int) : Rat).num < 0)), vn8, vd10])], ⟨⟨_, _, [(iv i), (bd (((k : Int) : Rat).num < 0)), vn8, vd10], rfl, ⟨_, uT55⟩, hb4.cells rfl, .inl ⟨ag55, ⟨_, _, ty55⟩, rfl⟩⟩, trivial⟩, ?_⟩
 replace hn9 := hn9.apn hx17 nb_hx17
 replace hd11 := hd11.apn hx17 nb_hx17
 exact ⟨⟨_, _, rfl, rfl, hn9, hd11, by omega, by omega⟩, hE⟩
set_option maxHeartbeats 4000000 in
theorem l_awake {w : World} :
    Calls Tryz.prog 14 #[] w fun e w' => ∃ v, e = .returned v ∧ v = .bool true ∧ Ext w w' := by
 have hE : Below w.heap.size w w := Below.refl _ _
 refine calls_of (n := 38) (rs := [.tmp 0]) func14 rfl rfl rfl bL ?_
 refine wset fun F0 hF0 => ?_
 refine wsr (aS (v := (.bool false)) rfl (RL.nil (wsr ?_)))
 refine cL (vl := [(iv 0), (iv 5)]) ent35 (l_entry (i := 0) (k := 5) dC) rfl ?_
 rintro _ w1 ⟨⟨vn3, vd4, rfl, hk5⟩, he2⟩
 obtain ⟨-, hn6, hd7, ln8, ln9⟩ := hk5
 replace hn6 := hn6.fr hE
 replace hd7 := hd7.fr hE
 replace hE := hE.nx he2
 refine rU (h_lit (vl := [(0, (.agg #[(iv 0), (bd (((5 : Int) : Rat).num < 0)), vn3, vd4]))]) (cs := [(iv 0), (bd (((5 : Int) : Rat).num < 0)), vn3, vd4]) uT22 ty55 rfl dC (by first | (simp [Instr.fill, Value.cells]; done) | rfl | kernel_rfl)) ?_
 rintro _ w10 ⟨b11, rfl, hs14, hb13, he12⟩
 have ge_b11 := hE.ge hs14
 replace hE := hE.nx he12
 refine rU (h_lit (vl := [(0, (iv 2)), (1, (iv 0)), (2, (iv 1))]) (cs := [(iv 2), (iv 0), (iv 1)]) uT23 ty3 rfl dC (by first | (simp [Instr.fill, Value.cells]; done) | rfl | kernel_rfl)) ?_
 rintro _ w15 ⟨b16, rfl, hs19, hb18, he17⟩
 have lt_b11_b16 := Nat.lt_of_lt_of_eq hb13.lt hs19.symm
 have ge_b16 := hE.ge hs19
 replace hE := hE.nx he17
 replace hb13 := hb13.ext he17
 replace hn6 := hn6.tr (Sm.ext (Ext.trans he12 he17))
 replace hd7 := hd7.tr (Sm.ext (Ext.trans he12 he17))
 have hlit21 := Ec.lit (L := 3) (D := (fun b _ => w.heap.size ≤ b)) (T := 55) [((0, decide (((5 : Int) : Rat).num < 0), vn3, vd4), ((5 : Int) : Rat))] hb13 ge_b11 bL (List.forall_mem_cons.2 ⟨⟨rfl, hn6.mono (fun _ _ h => h.1), hd7.mono (fun _ _ h => h.1), ln8, ln9⟩, (fun _ h => by cases h)⟩)
 refine cL (vl := [(.slice (some ⟨b11, 0, none⟩) (1) (1)), (.slice (some ⟨b16, 0, none⟩) (3) (3))]) ent11 (v_permute (x := [(0, ((5 : Int) : Rat))]) (L := 3) (M := 100) (p := [2, 0, 1]) hlit21.rd (.inr dC) dC dC (hb18.sg (g := gI .i64) (D := (fun b _ => w.heap.size ≤ b)) (xs := [2, 0, 1]) ge_b16 rfl rfl dC) dC awk12) rfl ?_
 rintro vt0 w20 ⟨⟨vp0, ok0, rfl, hdis⟩, he22⟩
 obtain ⟨rfl, hpp, r00, rs0, hpe, hpa, hpz, hpg, hra, hrz, hrg⟩ := hdis.resolve_left (fun h => h.2.2 awk_ok)
 replace hpe := hpe.mono (D' := (fun b _ => w.heap.size ≤ b)) (fun _ _ h => Nat.le_trans hE.size h)
 replace hE := hE.nx he22
 have hpm1 : rs0 = [(2, ((5 : Int) : Rat))] := awk_perm hpp hpa hpz hpg hra hrz hrg
 rw [hpm1] at hpe
 refine mV (v := (.tuple #[vp0, (.bool true)])) rfl (rV (r_extract (v := vp0) rfl rfl) (rV (r_extract (v := (.bool true)) rfl rfl) (aS (v := vp0) rfl (aS (v := (.bool true)) rfl (RL.nil (wsr ?_))))))
 refine cL (vl := [(iv 3), (iv 1)]) ent35 (l_entry (i := 3) (k := 1) dC) rfl ?_
 rintro _ w23 ⟨⟨vn25, vd26, rfl, hk27⟩, he24⟩
 obtain ⟨-, hn28, hd29, ln30, ln31⟩ := hk27
 replace hn28 := hn28.fr hE
 replace hd29 := hd29.fr hE
 replace hE := hE.nx he24
 refine cL (vl := [(iv 1), (iv 2)]) ent35 (l_entry (i := 1) (k := 2) dC) rfl ?_
 rintro _ w32 ⟨⟨vn34, vd35, rfl, hk36⟩, he33⟩
 obtain ⟨-, hn37, hd38, ln39, ln40⟩ := hk36
 replace hn37 := hn37.fr hE
 replace hd38 := hd38.fr hE
 replace hE := hE.nx he33
 refine cL (vl := [(iv 3), (iv (-1))]) ent35 (l_entry (i := 3) (k := -1) dC) rfl ?_
 rintro _ w41 ⟨⟨vn43, vd44, rfl, hk45⟩, he42⟩
 obtain ⟨-, hn46, hd47, ln48, ln49⟩ := hk45
 replace hn46 := hn46.fr hE
 replace hd47 := hd47.fr hE
 replace hE := hE.nx he42
 refine rU (h_lit (vl := [(0, (.agg #[(iv 3), (bd (((1 : Int) : Rat).num < 0)), vn25, vd26])), (1, (.agg #[(iv 1), (bd (((2 : Int) : Rat).num < 0)), vn34, vd35])), (2, (.agg #[(iv 3), (bd (((-1 : Int) : Rat).num < 0)), vn43, vd44]))]) (cs := [(iv 3), (bd (((1 : Int) : Rat).num < 0)), vn25, vd26, (iv 1), (bd (((2 : Int) : Rat).num < 0)), vn34, vd35, (iv 3), (bd (((-1 : Int) : Rat).num < 0)), vn43, vd44]) uT22 ty55 rfl dC (by first | (simp [Instr.fill, Value.cells]; done) | rfl | kernel_rfl)) ?_
 rintro _ w50 ⟨b51, rfl, hs54, hb53, he52⟩
 have hm55 := Ext.trans he22 (Ext.trans he24 (Ext.trans he33 he42))
 replace hb18 := hb18.ext hm55
 have lt_b16_b51 := Nat.lt_of_lt_of_eq hb18.lt hs54.symm
 have ge_b51 := hE.ge hs54
 replace hE := hE.nx he52
 have hm67 := Ext.trans he33 (Ext.trans he42 he52)
 replace hn28 := hn28.tr (Sm.ext hm67)
 replace hd29 := hd29.tr (Sm.ext hm67)
 replace hn37 := hn37.tr (Sm.ext (Ext.trans he42 he52))
 replace hd38 := hd38.tr (Sm.ext (Ext.trans he42 he52))
 replace hn46 := hn46.tr (Sm.ext he52)
 replace hd47 := hd47.tr (Sm.ext he52)
 have hlit66 := Ec.lit (L := 3) (D := (fun b _ => w.heap.size ≤ b)) (T := 55) [((3, decide (((1 : Int) : Rat).num < 0), vn25, vd26), ((1 : Int) : Rat)), ((1, decide (((2 : Int) : Rat).num < 0), vn34, vd35), ((2 : Int) : Rat)), ((3, decide (((-1 : Int) : Rat).num < 0), vn43, vd44), ((-1 : Int) : Rat))] hb53 ge_b51 bL (List.forall_mem_cons.2 ⟨⟨rfl, hn28.mono (fun _ _ h => h.1), hd29.mono (fun _ _ h => h.1), ln30, ln31⟩, (List.forall_mem_cons.2 ⟨⟨rfl, hn37.mono (fun _ _ h => h.1), hd38.mono (fun _ _ h => h.1), ln39, ln40⟩, (List.forall_mem_cons.2 ⟨⟨rfl, hn46.mono (fun _ _ h => h.1), hd47.mono (fun _ _ h => h.1), ln48, ln49⟩, (fun _ h => by cases h)⟩)⟩)⟩)
 refine cL (vl := [(.slice (some ⟨b51, 0, none⟩) (3) (3))]) ent28 (v_norm (x := [(3, ((1 : Int) : Rat)), (1, ((2 : Int) : Rat)), (3, ((-1 : Int) : Rat))]) (L := 3) (M := 100) hlit66.rd (.inr dC) dC dC) rfl ?_
 rintro vn58 w56 ⟨⟨rs59, ho60, ha61, hz62, hg63, hl64, hw65⟩, he57⟩
 replace ho60 := Oe.fr (D' := (fun b T => w.heap.size ≤ b ∧ T = 89)) (lo' := w.heap.size) ho60 hE.size (fun _ _ h => ⟨Nat.le_trans hE.size h.1, h.2⟩)
 replace hE := hE.nx he57
 have hnm := awk_norm ha61 hz62 hg63
 rw [hnm] at ho60
 refine cL (vl := [(iv 1), (iv 2)]) ent35 (l_entry (i := 1) (k := 2) dC) rfl ?_
 rintro _ w68 ⟨⟨vn70, vd71, rfl, hk72⟩, he69⟩
 obtain ⟨-, hn73, hd74, ln75, ln76⟩ := hk72
 replace hn73 := hn73.fr hE
 replace hd74 := hd74.fr hE
 replace hE := hE.nx he69
 refine rU (h_lit (vl := [(0, (.agg #[(iv 1), (bd (((2 : Int) : Rat).num < 0)), vn70, vd71]))]) (cs := [(iv 1), (bd (((2 : Int) : Rat).num < 0)), vn70, vd71]) uT22 ty55 rfl dC (by first | (simp [Instr.fill, Value.cells]; done) | rfl | kernel_rfl)) ?_
 rintro _ w77 ⟨b78, rfl, hs81, hb80, he79⟩
 replace hb53 := hb53.ext (Ext.trans he57 he69)
 have lt_b51_b78 := Nat.lt_of_lt_of_eq hb53.lt hs81.symm
 have ge_b78 := hE.ge hs81
 replace ho60 := ho60.ext he69
 have on_vn58_b78 : vn58.ownBlock ≠ some b78 := fun h => absurd (ho60.lt _ h) (by rw [hs81]; exact Nat.lt_irrefl _)
 replace hE := hE.nx he79
 replace hn73 := hn73.tr (Sm.ext he79)
 replace hd74 := hd74.tr (Sm.ext he79)
 have hlit84 := Ec.lit (L := 3) (D := (fun b _ => w.heap.size ≤ b)) (T := 55) [((1, decide (((2 : Int) : Rat).num < 0), vn70, vd71), ((2 : Int) : Rat))] hb80 ge_b78 bL (List.forall_mem_cons.2 ⟨⟨rfl, hn73.mono (fun _ _ h => h.1), hd74.mono (fun _ _ h => h.1), ln75, ln76⟩, (fun _ h => by cases h)⟩)
 replace ho60 := ho60.ext he79
 refine cL ent13 (r06_ident (L := 101) (es := [(1, ((2 : Int) : Rat))]) ((ho60.ec (D' := (fun b _ => w.heap.size ≤ b)) (fun _ h => h) (fun _ _ h => h.1)).wide oM) (hlit84.wide oM) oM) rfl ?_
 rintro _ w82 ⟨rfl, he83⟩
 replace hE := hE.nx he83
 refine mV (v := (.bool true)) rfl ?_
 refine RL.gcall rfl rfl rfl rfl dC (r_call (vl := [(iv 0), (iv 2)]) ent35 rfl) (l_entry (i := 0) (k := 2) dC) ?_
 rintro _ w85 ⟨⟨vn87, vd88, rfl, hk89⟩, he86⟩
 obtain ⟨-, hn90, hd91, ln92, ln93⟩ := hk89
 replace hn90 := hn90.fr hE
 replace hd91 := hd91.fr hE
 replace hE := hE.nx he86
 refine RL.gcall rfl rfl rfl rfl dC (r_call (vl := [(iv 5), (iv 3)]) ent35 rfl) (l_entry (i := 5) (k := 3) dC) ?_
 rintro _ w94 ⟨⟨vn96, vd97, rfl, hk98⟩, he95⟩
 obtain ⟨-, hn99, hd100, ln101, ln102⟩ := hk98
 replace hn99 := hn99.fr hE
 replace hd100 := hd100.fr hE
 replace hE := hE.nx he95
 refine RL.grun rfl rfl rfl rfl dC (h_lit (vl := [(0, (.agg #[(iv 0), (bd (((2 : Int) : Rat).num < 0)), vn87, vd88])), (1, (.agg #[(iv 5), (bd (((3 : Int) : Rat).num < 0)), vn96, vd97]))]) (cs := [(iv 0), (bd (((2 : Int) : Rat).num < 0)), vn87, vd88, (iv 5), (bd (((3 : Int) : Rat).num < 0)), vn96, vd97]) uT22 ty55 rfl dC (by first | (simp [Instr.fill, Value.cells]; done) | rfl | kernel_rfl)) ?_
 rintro _ w103 ⟨b104, rfl, hs107, hb106, he105⟩
 have hm108 := Ext.trans he83 (Ext.trans he86 he95)
 replace hb80 := hb80.ext hm108
 have lt_b78_b104 := Nat.lt_of_lt_of_eq hb80.lt hs107.symm
 have ge_b104 := hE.ge hs107
 replace ho60 := ho60.ext hm108
 have on_vn58_b104 : vn58.ownBlock ≠ some b104 := fun h => absurd (ho60.lt _ h) (by rw [hs107]; exact Nat.lt_irrefl _)
 replace hE := hE.nx he105
 refine RL.gcall rfl rfl rfl rfl dC (r_call (vl := [(iv 5), (iv 4)]) ent35 rfl) (l_entry (i := 5) (k := 4) dC) ?_
 rintro _ w109 ⟨⟨vn111, vd112, rfl, hk113⟩, he110⟩
 obtain ⟨-, hn114, hd115, ln116, ln117⟩ := hk113
 replace hn114 := hn114.fr hE
 replace hd115 := hd115.fr hE
 replace hE := hE.nx he110
 refine RL.gcall rfl rfl rfl rfl dC (r_call (vl := [(iv 7), (iv 1)]) ent35 rfl) (l_entry (i := 7) (k := 1) dC) ?_
 rintro _ w118 ⟨⟨vn120, vd121, rfl, hk122⟩, he119⟩
 obtain ⟨-, hn123, hd124, ln125, ln126⟩ := hk122
 replace hn123 := hn123.fr hE
 replace hd124 := hd124.fr hE
 replace hE := hE.nx he119
 refine RL.grun rfl rfl rfl rfl dC (h_lit (vl := [(0, (.agg #[(iv 5), (bd (((4 : Int) : Rat).num < 0)), vn111, vd112])), (1, (.agg #[(iv 7), (bd (((1 : Int) : Rat).num < 0)), vn120, vd121]))]) (cs := [(iv 5), (bd (((4 : Int) : Rat).num < 0)), vn111, vd112, (iv 7), (bd (((1 : Int) : Rat).num < 0)), vn120, vd121]) uT22 ty55 rfl dC (by first | (simp [Instr.fill, Value.cells]; done) | rfl | kernel_rfl)) ?_
 rintro _ w127 ⟨b128, rfl, hs131, hb130, he129⟩
 replace hb106 := hb106.ext (Ext.trans he110 he119)
 have lt_b104_b128 := Nat.lt_of_lt_of_eq hb106.lt hs131.symm
 have ge_b128 := hE.ge hs131
 have hm132 := Ext.trans he105 (Ext.trans he110 he119)
 replace ho60 := ho60.ext hm132
 have on_vn58_b128 : vn58.ownBlock ≠ some b128 := fun h => absurd (ho60.lt _ h) (by rw [hs131]; exact Nat.lt_irrefl _)
 replace hE := hE.nx he129
 replace hb106 := hb106.ext he129
 have hm135 := Ext.trans he95 (Ext.trans he105 (Ext.trans he110 (Ext.trans he119 he129)))
 replace hn90 := hn90.tr (Sm.ext hm135)
 replace hd91 := hd91.tr (Sm.ext hm135)
 have hm136 := Ext.trans hm132 he129
 replace hn99 := hn99.tr (Sm.ext hm136)
 replace hd100 := hd100.tr (Sm.ext hm136)
 have hlit134 := Ec.lit (L := 3) (D := (fun b _ => w.heap.size ≤ b)) (T := 55) [((0, decide (((2 : Int) : Rat).num < 0), vn87, vd88), ((2 : Int) : Rat)), ((5, decide (((3 : Int) : Rat).num < 0), vn96, vd97), ((3 : Int) : Rat))] hb106 ge_b104 bL (List.forall_mem_cons.2 ⟨⟨rfl, hn90.mono (fun _ _ h => h.1), hd91.mono (fun _ _ h => h.1), ln92, ln93⟩, (List.forall_mem_cons.2 ⟨⟨rfl, hn99.mono (fun _ _ h => h.1), hd100.mono (fun _ _ h => h.1), ln101, ln102⟩, (fun _ h => by cases h)⟩)⟩)
 replace hn114 := hn114.tr (Sm.ext (Ext.trans he119 he129))
 replace hd115 := hd115.tr (Sm.ext (Ext.trans he119 he129))
 replace hn123 := hn123.tr (Sm.ext he129)
 replace hd124 := hd124.tr (Sm.ext he129)
 have hlit137 := Ec.lit (L := 3) (D := (fun b _ => w.heap.size ≤ b)) (T := 55) [((5, decide (((4 : Int) : Rat).num < 0), vn111, vd112), ((4 : Int) : Rat)), ((7, decide (((1 : Int) : Rat).num < 0), vn120, vd121), ((1 : Int) : Rat))] hb130 ge_b128 bL (List.forall_mem_cons.2 ⟨⟨rfl, hn114.mono (fun _ _ h => h.1), hd115.mono (fun _ _ h => h.1), ln116, ln117⟩, (List.forall_mem_cons.2 ⟨⟨rfl, hn123.mono (fun _ _ h => h.1), hd124.mono (fun _ _ h => h.1), ln125, ln126⟩, (fun _ h => by cases h)⟩)⟩)
 refine RL.gcall rfl rfl rfl rfl dC (r_call (vl := [(.slice (some ⟨b104, 0, none⟩) (2) (2)), (.slice (some ⟨b128, 0, none⟩) (2) (2))]) ent18 rfl) (v_dot (x := [(0, ((2 : Int) : Rat)), (5, ((3 : Int) : Rat))]) (y := [(5, ((4 : Int) : Rat)), (7, ((1 : Int) : Rat))]) (M := 100) hlit134.rd hlit137.rd (.inr dC) dC (.inr dC) dC dC) ?_
 rintro vt1 w133 ⟨⟨vq, uq, hvq, hqx, hqd, _, _⟩, he138⟩
 rw [awk_dot] at hvq
 subst hvq
 replace hE := hE.nx he138
 rw [awk_dot] at hqx hqd
 refine RL.gcall rfl rfl rfl rfl dC (r_call (vl := [(iv 12)]) ent36 rfl) (r03_from oM) ?_
 rintro _ w139 ⟨⟨vn141, vd143, rfl, hn142, hd144, hl145, hl146⟩, he140⟩
 have hlv147 := den_one ((12 : Int) : Rat)
 replace hn142 := hn142.fr hE
 replace hd144 := hd144.fr hE
 replace hE := hE.nx he140
 replace hqx := hqx.tr (Sm.ext he140)
 replace hqd := hqd.tr (Sm.ext he140)
 refine RL.gcall rfl rfl rfl rfl dC (r_call (vl := [(.agg #[(bd (((12 : Int) : Rat).num < 0)), vq, uq]), (.agg #[(bd (((12 : Int) : Rat).num < 0)), vn141, vd143])]) ent17 rfl) (r03_eqt hqx hqd hn142 hd144) ?_
 rintro _ w148 ⟨rfl, he149⟩
 replace hE := hE.nx he149
 refine rV (r_pick_t (v := (.bool true)) rfl rfl) (mV (v := (.bool true)) rfl ?_)
 refine RL.gval rfl rfl rfl rfl dC (r_move_as (v := (.bool true)) rfl) ?_
 refine rV (r_pick_t (v := (.bool true)) rfl rfl) (mV (v := (.bool true)) rfl ?_)
 refine RL.gval rfl rfl rfl rfl dC (r_move_as (v := vp0) rfl) ?_
 refine RL.gcall rfl rfl rfl rfl dC (r_call (vl := [(iv 2), (iv 5)]) ent35 rfl) (l_entry (i := 2) (k := 5) dC) ?_
 rintro _ w150 ⟨⟨vn152, vd153, rfl, hk154⟩, he151⟩
 obtain ⟨-, hn155, hd156, ln157, ln158⟩ := hk154
 replace hn155 := hn155.fr hE
 replace hd156 := hd156.fr hE
 replace hE := hE.nx he151
 refine RL.grun rfl rfl rfl rfl dC (h_lit (vl := [(0, (.agg #[(iv 2), (bd (((5 : Int) : Rat).num < 0)), vn152, vd153]))]) (cs := [(iv 2), (bd (((5 : Int) : Rat).num < 0)), vn152, vd153]) uT22 ty55 rfl dC (by first | (simp [Instr.fill, Value.cells]; done) | rfl | kernel_rfl)) ?_
 rintro _ w159 ⟨b160, rfl, hs163, hb162, he161⟩
 have hm164 := Ext.trans he138 (Ext.trans he140 (Ext.trans he149 he151))
 replace hb130 := hb130.ext hm164
 have lt_b128_b160 := Nat.lt_of_lt_of_eq hb130.lt hs163.symm
 have ge_b160 := hE.ge hs163
 have hm165 := Ext.trans he129 (Ext.trans he138 (Ext.trans he140 (Ext.trans he149 he151)))
 replace ho60 := ho60.ext hm165
 have on_vn58_b160 : vn58.ownBlock ≠ some b160 := fun h => absurd (ho60.lt _ h) (by rw [hs163]; exact Nat.lt_irrefl _)
 replace hE := hE.nx he161
 replace hn155 := hn155.tr (Sm.ext he161)
 replace hd156 := hd156.tr (Sm.ext he161)
 have hlit168 := Ec.lit (L := 3) (D := (fun b _ => w.heap.size ≤ b)) (T := 55) [((2, decide (((5 : Int) : Rat).num < 0), vn152, vd153), ((5 : Int) : Rat))] hb162 ge_b160 bL (List.forall_mem_cons.2 ⟨⟨rfl, hn155.mono (fun _ _ h => h.1), hd156.mono (fun _ _ h => h.1), ln157, ln158⟩, (fun _ h => by cases h)⟩)
 have hm169 := Ext.trans he24 (Ext.trans he33 (Ext.trans he42 (Ext.trans he52 (Ext.trans he57 (Ext.trans he69 (Ext.trans he79 (Ext.trans he83 (Ext.trans he86 (Ext.trans he95 (Ext.trans he105 (Ext.trans he110 (Ext.trans he119 (Ext.trans he129 (Ext.trans he138 (Ext.trans he140 (Ext.trans he149 (Ext.trans he151 he161)))))))))))))))))
 replace hpe := hpe.tr (Sm.ext hm169)
 refine RL.gcall rfl rfl rfl rfl dC (r_call (vl := [vp0, (.slice (some ⟨b160, 0, none⟩) (1) (1))]) ent13 rfl) (r06_ident (L := 101) (es := [(2, ((5 : Int) : Rat))]) (hpe.wide oM) (hlit168.wide oM) oM) ?_
 rintro _ w166 ⟨rfl, he167⟩
 replace hE := hE.nx he167
 refine rV (r_pick_t (v := (.bool true)) rfl rfl) (aS (v := (.bool true)) rfl (RL.nil ?_))
 refine wret ?_
 refine ⟨[(.bool true)], ⟨rfl, trivial⟩, ?_⟩
 exact ⟨rfl, hE⟩
end Go.Proofs.YtelbjmhhbeijkaaGreat
namespace Go.Proofs.YtelbjmhhbeijkaaGreat
open Go.Vg Go.RowKit _root_.Go.Proofs.Tryz
set_option linter.unusedVariables false
open Go.Vm
theorem fit_le {n m t M : Nat} (h : n ≤ m) (h2 : (m + 1) * t ≤ M) : (n + 1) * t ≤ M := Nat.le_trans (Nat.mul_le_mul_right t oM) h2
end Go.Proofs.YtelbjmhhbeijkaaGreat
namespace Go.Vg
open Go Go.RowKit Go.Vm
def Oi (w : World) (lo : Nat) (T : TypeId) (v : Value) (xs : List Int) : Prop := Ow w lo T 1 v xs.length (xs.map (gI .i64))
section
variable {D D' : Nat → TypeId → Prop} {w w' : World} {lo b : Nat} {T T' : TypeId} {v : Value} {xs : List Int} {l : List Value}
theorem Oi.nil : Oi w lo T (.slice none 0 0) [] := Ow.nil lo 1
theorem Oi.ext (h : Oi w lo T v xs) (e : Ext w w') : Oi w' lo T v xs := Ow.ext h e
theorem Oi.exo (h : Oi w lo T v xs) (e : Exc b w w') (hne : v.ownBlock ≠ some b) (_hb : Nb w b) : Oi w' lo T v xs := Ow.exo h e hne
theorem Oi.lt (h : Oi w lo T v xs) (b : Nat) (hb : v.ownBlock = some b) : b < w.heap.size := (World.ownsRow.lt h b hb).2
theorem Oi.one (h : Oi w lo T v xs) : v.oneCell' = true := Ow.one h
theorem Oi.len (h : Oi w lo T v xs) : ∃ A c, v = .slice A xs.length c ∧ xs.length ≤ c ∧ c ≤ 9223372036854775807 := Ow.len h
theorem Oi.gsm (h : Oi w lo T v xs) (hg : w.grownBy w' v.ownBlock) (hD : ∀ b, lo ≤ b → ¬ D' b T) : Sm D' w w' := Ow.sm h hg hD
theorem Oi.gbk (h : Oi w lo T v xs) (hg : w.grownBy w' v.ownBlock) (hb : Bk w b T' l) (hne : T' ≠ T) : Bk w' b T' l := Ow.bk h hg hb (.inr hne)
theorem Oi.gbo (_h : Oi w lo T v xs) (hg : w.grownBy w' v.ownBlock) (hb : Bk w b T' l) (hne : v.ownBlock ≠ some b) : Bk w' b T' l := (hg.block b hb.lt (fun he => hne he.symm)).trans hb
theorem Oi.gbe {w0 : World} {B : Nat} (h : Oi w lo T v xs) (hg : w.grownBy w' v.ownBlock) (hE : Below B w0 w) (hB : B ≤ lo) (hs : B ≤ w.heap.size) : Below B w0 w' := Ow.below h hg hE hB hs
theorem Oe.nil {L : Nat} : Oe L D w lo T (.slice none 0 0) [] := ⟨[], Ow.nil lo 4, Fe.nil⟩
theorem Oe.gbl {w0 : World} {L B : Nat} {es : List Ent'} (h : Oe L D w lo T v es) (hg : w.grownBy w' v.ownBlock) (hE : Below B w0 w) (hB : B ≤ lo) (hs : B ≤ w.heap.size) : Below B w0 w' := by
  obtain ⟨xs, h1, h2⟩ := h
  exact h1.below hg hE hB hs
theorem Oi.gbg {w0 : World} {ob : Option Nat} (h : Oi w lo T v xs) (hg : w.grownBy w' v.ownBlock) (hE : Gro ob w0 w) (hB : w0.heap.size ≤ lo) (hs : w0.heap.size ≤ w.heap.size) : Gro ob w0 w' := by
  have h3 := Ow.below h hg (Below.refl w0.heap.size w) hB hs
  exact ⟨⟨h3.os.trans hE.g.os, h3.tape.trans hE.g.tape, h3.output.trans hE.g.output, Nat.le_trans hE.size h3.size, fun i hi hn => (h3.block i hi).trans (hE.g.block i hi hn)⟩⟩
theorem Oi.room (hb : Bk w b T []) (hlo : lo ≤ b) : Oi w lo T (.slice (some ⟨b, 0, none⟩) 0 0) [] := Ow.room hb hlo rfl (Nat.zero_le _)
theorem Oi.sg (h : Oi w lo T v xs) (hD : ∀ b, lo ≤ b → D b T) : Sg (gI .i64) D w v xs := Ow.sg h rfl rfl hD
end
section
variable {P : Program} {f : Nat → Value} {w : World} {dst : Option Tmp} {ty : TypeId} {pos : String} {aft : Array Edge} {g : Option (Nat × Bool)} {x y z : Operand} {t e : TypeId} {D D2 : Nat → TypeId → Prop}
theorem r_nilCheck {b o : Nat} (hx : ev f x = .pointer (some ⟨b, o, none⟩)) : (execOp (ev f) ⟨dst, .nilCheck x, ty, pos, aft, g⟩).run P w = .ok (.value (.pointer (some ⟨b, o, none⟩))) w := by
  simp [execOp, hx]
theorem h_appendIs {lo bytes : Nat} {zz v1 v2 : Value} {xs ys : List Int} (hu : P.underlying t = some (.slice e)) (ht : TyI P e 1 bytes zz) (hz : zz.cells.size = 1) (hx : ev f x = v1) (hy : ev f y = v2)
    (ho : Oi w lo e v1 xs) (hs : Sg (gI .i64) D2 w v2 ys) (h63 : xs.length + ys.length ≤ maxLen) (hby : (xs.length + ys.length) * bytes ≤ 140737488355328) (hlo : lo ≤ w.heap.size) :
    Run P f ⟨dst, .call ⟨.builtin .append, #[x, y], #[t, t]⟩, ty, pos, aft, g⟩ w fun v w' => Oi w' lo e v (xs ++ ys) ∧ w.grownBy w' v1.ownBlock := by
  obtain ⟨v, w', hr, h4, h5⟩ := h_append (P := P) (f := f) (dst := dst) (ty := ty) (pos := pos) (aft := aft) (g := g) hu ht hz dC hx hy ho hs (fun u hu => by obtain ⟨i, _, rfl⟩ := List.mem_map.1 hu; rfl) h63 hby hlo
  refine ⟨v, w', hr, ?_, h5⟩
  unfold Oi
  rw [List.length_append, List.map_append]
  exact h4
theorem h_appendI {lo bytes : Nat} {zz v1 v2 : Value} {xs : List Int} {i0 : Int} (hu : P.underlying t = some (.slice e)) (ht : TyI P e 1 bytes zz) (hz : zz.cells.size = 1) (hx : ev f x = v1) (hy : ev f y = v2)
    (ho : Oi w lo e v1 xs) (hs : Sc D2 w 1 v2 1 [.int .i64 i0]) (h63 : xs.length + 1 ≤ maxLen) (hby : (xs.length + 1) * bytes ≤ 140737488355328) (hlo : lo ≤ w.heap.size) :
    Run P f ⟨dst, .call ⟨.builtin .append, #[x, y], #[t, t]⟩, ty, pos, aft, g⟩ w fun v w' => Oi w' lo e v (xs ++ [i0]) ∧ w.grownBy w' v1.ownBlock := by
  obtain ⟨v, w', hr, h4, h5⟩ := h_append (P := P) (f := f) (dst := dst) (ty := ty) (pos := pos) (aft := aft) (g := g) hu ht hz dC hx hy ho hs (one_cons rfl one_nil) h63 hby hlo
  refine ⟨v, w', hr, ?_, h5⟩
  unfold Oi
  rw [List.length_append, List.length_singleton, List.map_append]
  exact h4
end
end Go.Vg
namespace Go.Proofs.YtelbjmhhbeijkaaGreat
open Go.Vg Go.RowKit _root_.Go.Proofs.Tryz
set_option linter.unusedVariables false
open Go.Vm
set_option maxHeartbeats 1000000 in
theorem t_next {w : World} {n : Nat} (hn : 0 < n) (hn2 : n ≤ 1048576) {bt : Nat} {Dv : Nat → TypeId → Prop} {vv : Value} {vs : List Int} {at0 : Nat} (hbt : Bk w bt 58 [vv, .int .i64 (at0 : Int)]) (hv : Sg (gI .i64) Dv w vv vs) (hat : at0 ≤ vs.length) (hDv : ∀ T, ¬ Dv bt T) :
    Calls Tryz.prog 10 #[(.pointer (some ⟨bt, 0, none⟩)), (iv n)] w fun e w' => ∃ v, e = .returned v ∧ (∃ r at1 : Nat, v = .int .i64 (r : Int) ∧ r < n ∧ at1 ≤ vs.length ∧ Bk w' bt 58 [vv, .int .i64 (at1 : Int)]) ∧ Exc bt w w' := by
 have hX : Exc bt w w := Exc.of_ext (Ext.refl _)
 have hbtl := hbt.lt
 refine calls_of (n := 35) (rs := [.tmp 4]) func10 rfl rfl rfl bL ?_
 refine wset fun F0 hF0 => ?_
 refine wsr (aS (v := (iv 0)) rfl (RL.nil (wseq (wseq ?_))))
 refine wdraw mixed fun w1 he2 => ?_
 have he2z := he2.size
 replace hv := hv.tr (Sm.ext he2)
 replace hbt := hbt.ext he2
 replace hX := hX.trans (Exc.of_ext he2)
 refine ra 0 rfl (fun _ => r_move_as (v := (.pointer (some ⟨bt, 0, none⟩))) (hF0 0)) ?_
 refine ra 1 rfl (fun _ => r_nilCheck (b := bt) (o := 0) rfl) ?_
 refine ra 2 rfl (fun _ => r_fieldAddr uT58 rfl ty3 rfl) ?_
 have hc3 := hbt.cell (j := 1) (u := (iv at0)) rfl
 refine RA.rd 3 rfl kR rfl rfl rfl dC (Ext.refl _) (fun u hu => r_load uT3 ag3 rfl (cell_ext hu hc3)) ?_
 refine ra 4 rfl (fun _ => r_move_as (v := (.pointer (some ⟨bt, 0, none⟩))) (hF0 0)) ?_
 refine ra 5 rfl (fun _ => r_nilCheck (b := bt) (o := 0) rfl) ?_
 refine ra 6 rfl (fun _ => r_fieldAddr uT58 rfl ty23 rfl) ?_
 have hc4 := hbt.cell (j := 0) (u := vv) rfl
 refine RA.rd 7 rfl kR rfl rfl rfl dC (Ext.refl _) (fun u hu => r_load uT23 ag23 rfl (cell_ext hu hc4)) ?_
 obtain ⟨A5, c6, hv7, hc8, hc9⟩ := hv.len
 refine ra 8 rfl (fun _ => r_len uT23 hv7) ?_
 refine ra 9 rfl (fun _ => r_geq (k := .i64) (a := (at0 : Int)) (b := ((vs.length : Nat) : Int)) rfl rfl) ?_
 refine RA.done kR ?_
 refine wcD (p := ((vs.length : Nat) : Int) ≤ (at0 : Int)) rfl (fun hb10 hb10p => ?_) (fun hb10 hb10p => ?_)
 ·refine wsr ?_
  refine aS (v := (iv 0)) rfl (RL.nil ?_)
  refine wret ?_
  refine ⟨[(iv 0)], ⟨rfl, trivial⟩, ?_⟩
  exact ⟨⟨0, at0, rfl, hn, hat, hbt⟩, hX⟩
 refine wskip ?_
 refine wsr (mV (v := (.pointer (some ⟨bt, 0, none⟩))) (hF0 0) (rV (r_nilCheck (b := bt) (o := 0) rfl) (rV (r_fieldAddr uT58 rfl ty3 rfl) ?_)))
 have hc11 := hbt.cell (j := 1) (u := (iv at0)) rfl
 refine rV (r_load uT3 ag3 rfl hc11) (rV (r_add (k := .i64) (a := (at0 : Int)) (b := 1) (c := ((at0 + 1 : Nat) : Int)) rfl rfl ((wi64 oM).trans oM)) (rV (r_nilCheck (b := bt) (o := 0) rfl) (rV (r_fieldAddr uT58 rfl ty3 rfl) ?_)))
 refine RL.runs rfl rfl (h_store (vv := (iv (at0 + 1 : Nat))) (cs := [(iv (at0 + 1 : Nat))]) (o := 1) ty3 rfl rfl rfl rfl (one_cons rfl one_nil) hbt bL) ?_
 rintro w12 ⟨hn13, hx14, hz15⟩
 have hx14z := hx14.size
 replace hv := hv.tr (hbt.sm hx14 (by intro hd; exact absurd hd (hDv _)))
 replace hX := hX.trans hx14
 replace hbt : Bk w12 bt 58 [vv, (iv (at0 + 1 : Nat))] := hn13
 refine RL.nil (wseq ?_)
 refine wdraw mixed fun w16 he17 => ?_
 have he17z := he17.size
 replace hv := hv.tr (Sm.ext he17)
 replace hbt := hbt.ext he17
 replace hX := hX.trans (Exc.of_ext he17)
 refine ra 0 rfl (fun _ => r_move_as (v := (.pointer (some ⟨bt, 0, none⟩))) (hF0 0)) ?_
 refine ra 1 rfl (fun _ => r_nilCheck (b := bt) (o := 0) rfl) ?_
 refine ra 2 rfl (fun _ => r_fieldAddr uT58 rfl ty23 rfl) ?_
 have hc18 := hbt.cell (j := 0) (u := vv) rfl
 refine RA.rd 3 rfl kR rfl rfl rfl dC (Ext.refl _) (fun u hu => r_load uT23 ag23 rfl (cell_ext hu hc18)) ?_
 refine ra 4 rfl (fun _ => r_move_as (v := (.pointer (some ⟨bt, 0, none⟩))) (hF0 0)) ?_
 refine ra 5 rfl (fun _ => r_nilCheck (b := bt) (o := 0) rfl) ?_
 refine ra 6 rfl (fun _ => r_fieldAddr uT58 rfl ty3 rfl) ?_
 have hc19 := hbt.cell (j := 1) (u := (iv (at0 + 1 : Nat))) rfl
 refine RA.rd 7 rfl kR rfl rfl rfl dC (Ext.refl _) (fun u hu => r_load uT3 ag3 rfl (cell_ext hu hc19)) ?_
 refine ra 8 rfl (fun _ => r_sub (k := .i64) (a := ((at0 + 1 : Nat) : Int)) (b := 1) (c := (at0 : Int)) rfl rfl ((wi64 oM).trans oM)) ?_
 obtain ⟨b20, o21, c22, hv23, hc24⟩ := hv.ix (i := (at0 : Int)) (at0) oM oM
 refine ra 9 rfl (fun _ => r_indexAddr (i := (at0 : Int)) uT23 ty3 hv23 rfl oM oM) ?_
 refine RA.rd 10 rfl kR rfl rfl rfl dC (Ext.refl _) (fun u hu => r_load (v := (iv (vs.getD (at0) default))) uT3 ag3 rfl (cell_ext hu hc24)) ?_
 refine ra 11 rfl (fun _ => r_move_as (v := (iv n)) (hF0 1)) ?_
 refine RA.all [12] kR rfl ?_
 refine RS.call rfl rfl rfl dC (r_call (vl := [(iv (vs.getD (at0) default)), (iv n)]) ent26 rfl) (mod_spec _ oM oM) ?_ RS.nil
 rintro _ _ ⟨rfl, rfl⟩
 refine rm (Ext.refl _) ?_
 refine ra 13 rfl (fun _ => r_assign_as (v := (iv (modF (vs.getD (at0) default) (n : Int)))) rfl) ?_
 refine RA.done kR ?_
 refine wret ?_
 refine ⟨[(iv (modF (vs.getD (at0) default) (n : Int)))], ⟨rfl, trivial⟩, ?_⟩
 have hmr := modF_range (vs.getD (at0) default) (n : Int) oM
 exact ⟨⟨(modF (vs.getD (at0) default) (n : Int)).toNat, at0 + 1, int_eq oM, by omega, by omega, hbt⟩, hX⟩
end Go.Proofs.YtelbjmhhbeijkaaGreat
namespace Go.Proofs.YtelbjmhhbeijkaaGreat
open Go.Vg Go.RowKit _root_.Go.Proofs.Tryz
set_option linter.unusedVariables false
open Go.Vm
theorem isp_ins {L : List Int} {k r : Nat} (hL : L.length = k) (hp : IsP L) (hr : r ≤ k) : IsP ((([] ++ L.take r) ++ [(k : Int)]) ++ L.drop r) ∧ ((([] ++ L.take r) ++ [(k : Int)]) ++ L.drop r).length = k + 1 := by
  have e : ((([] ++ L.take r) ++ [(k : Int)]) ++ L.drop r).Perm ((k : Int) :: L) := by
    rw [List.nil_append, List.append_assoc, List.singleton_append]
    refine List.perm_middle.trans ?_
    rw [List.take_append_drop]
  have el := e.length_eq
  rw [List.length_cons, hL] at el
  refine ⟨⟨fun x hx => ?_, e.nodup_iff.2 (List.nodup_cons.2 ⟨fun h => ?_, hp.2⟩)⟩, el⟩
  · rw [el]
    rcases List.mem_cons.1 (e.mem_iff.1 hx) with rfl | h
    · omega
    have := hp.1 x h; omega
  have := hp.1 _ h; omega
set_option maxHeartbeats 1000000 in
theorem t_perm {w : World} {n : Nat} (hn2 : n ≤ 1048575) {bt : Nat} {Dv : Nat → TypeId → Prop} {vv : Value} {vs : List Int} {at0 : Nat} (hbt : Bk w bt 58 [vv, .int .i64 (at0 : Int)]) (hv0 : Sg (gI .i64) Dv w vv vs) (hat0 : at0 ≤ vs.length) (hDv : ∀ T, ¬ Dv bt T) :
    Calls Tryz.prog 9 #[(.pointer (some ⟨bt, 0, none⟩)), (iv n)] w fun e w' => ∃ v, e = .returned v ∧ (∃ (p : List Int) (at1 : Nat), at1 ≤ vs.length ∧ Bk w' bt 58 [vv, .int .i64 (at1 : Int)] ∧ Sg (gI .i64) (fun b _ => w.heap.size ≤ b) w' v p ∧ p.length = n ∧ IsP p) ∧ Exc bt w w' := by
 have hE : Gro (some bt) w w := Gro.refl _ w
 have hbtl := hbt.lt
 have hv := hv0.old
 clear hv0
 have hisp0 : IsP [] := ⟨(fun _ h => by cases h), List.nodup_nil⟩
 refine calls_of (n := 33) (rs := [.tmp 4]) func9 rfl rfl rfl bL ?_
 refine wset fun F0 hF0 => ?_
 refine wsr (aS (v := (.slice none (0) (0))) rfl (RL.nil (wsr (aS (v := (.slice none (0) (0))) rfl (RL.nil (wseq (wsr (aS (v := (iv 0)) rfl (RL.nil ?_)))))))))
 refine wblock ?_
 refine wset fun F1 hF2 => ?_
 refine wloop (σ := Nat × List Int × Value × Nat) (fun (s : Nat × List Int × Value × Nat) fl wl => match s with | (k, L, vp, at1) => Off (rg 5 27 []) F1 fl ∧ fl 6 = (iv k) ∧ fl 5 = vp ∧ (k ≤ n) ∧ (L.length = k) ∧ (IsP L) ∧ (at1 ≤ vs.length) ∧ (Sg (gI .i64) (fun b _ => w.heap.size ≤ b) wl vp L) ∧ (Bk wl bt 58 [vv, .int .i64 (at1 : Int)]) ∧ (Gro (some bt) w wl) ∧ (Sg (gI .i64) (fun b T => Dv b T ∧ b < w.heap.size) wl vv vs)) (fun (s : Nat × List Int × Value × Nat) => match s with | (k, L, vp, at1) => n - k) (0, [], (.slice none 0 0), at0) ?_ ?_
 ·exact ⟨Off.refl _ _, (hF2 6).trans (rfl), (hF2 5).trans (rfl), Nat.zero_le _, rfl, hisp0, hat0, Sg.nil, hbt, hE, hv⟩
 clear hv hbt hE
 rintro ⟨k, L, vp, at1⟩ f3 w4 ⟨hoff5, hs6, hs7, hk, hL, hp, hat, hP, hbt, hE, hv⟩
 refine wseq (wsr (mV hs6 (mV (v := (iv n)) ((hoff5 1 rfl).trans ((hF2 1).trans (hF0 1))) (rV (r_lss (k := .i64) (a := (k : Int)) (b := (n : Int)) rfl rfl) (RL.nil ?_)))))
 refine wcD (p := (k : Int) < (n : Int)) rfl (fun hb8 hb8p => ?_) (fun hb8 hb8p => ?_)
 ·refine wskip ?_
  refine wseq ?_
  refine wblock ?_
  refine wsr (mV (v := (.pointer (some ⟨bt, 0, none⟩))) ((hoff5 0 rfl).trans ((hF2 0).trans (hF0 0))) (mV hs6 (rV (r_add (k := .i64) (a := (k : Int)) (b := 1) (c := ((k + 1 : Nat) : Int)) rfl rfl ((wi64 oM).trans oM)) ?_)))
  refine cL ent10 (t_next (n := k + 1) oM oM hbt hv hat (fun T hd => hDv T hd.1)) rfl ?_
  rintro _ w9 ⟨⟨r10, at11, rfl, hr12, ha13, hb14⟩, hx15⟩
  have hg16 := Gro.of_exc hx15
  replace hE := hE.trans hg16
  replace hbt := hb14
  refine aS (v := (iv r10)) rfl (RL.nil (wseq ?_))
  replace hP := hP.tr (Gro.sm hg16 (fun k T h hd => by cases h; exact absurd hbtl (Nat.not_lt_of_le hd)))
  have hPo := hP.old
  have hlo : w.heap.size ≤ w9.heap.size := hE.size
  have hEk : Below w9.heap.size w9 w9 := Below.refl _ _
  refine wregion ?_
  refine rU (h_lit (vl := []) (cs := []) uT23 ty3 rfl dC (by first | (simp [Instr.fill, Value.cells]; done) | rfl | kernel_rfl)) ?_
  rintro _ w17 ⟨b18, rfl, hs21, hb20, he19⟩
  have ge_b18 := hE.ge hs21
  have gk_b18 := hEk.ge hs21
  replace hE := hE.nx he19
  replace hEk := hEk.nx he19
  have hQ := Oi.room (lo := w9.heap.size) hb20 gk_b18
  refine mV hs7 (mV (v := (iv r10)) rfl ?_)
  obtain ⟨A22, c23, hv24, hc25, hc26⟩ := hPo.len
  replace hPo := hPo.tr (Sm.ext he19)
  have r27 := hPo.take (r10) oM hv24
  refine rV (r_sh (h := (r10 : Int)) (kk := r10) uT23 ty3 hv24 rfl oM oM) ?_
  refine rU (h_appendIs (v1 := (.slice (some ⟨b18, 0, none⟩) 0 0)) (v2 := (.slice A22 (r10) (c23))) (xs := []) (ys := (L.take (r10))) uT23 ty3 rfl rfl rfl hQ r27 (by simp only [maxLen]; rw [List.length_take]; simp only [List.length_nil]; omega) (by rw [List.length_take]; simp only [List.length_nil]; omega) hEk.size) ?_
  rintro v29 w28 ⟨ho30, hg31⟩
  replace hE := hQ.gbg hg31 hE hlo hE.size
  replace hEk := hQ.gbe hg31 hEk (Nat.le_refl _) hEk.size
  refine aS (v := v29) rfl (RL.nil (wsr (mV (v := v29) rfl (mV hs6 ?_))))
  refine rU (h_lit (vl := [(0, (iv k))]) (cs := [(iv k)]) uT23 ty3 rfl dC (by first | (simp [Instr.fill, Value.cells]; done) | rfl | kernel_rfl)) ?_
  rintro _ w32 ⟨b33, rfl, hs36, hb35, he34⟩
  have ge_b33 := hE.ge hs36
  have gk_b33 := hEk.ge hs36
  have on_v29_b33 : v29.ownBlock ≠ some b33 := fun h => absurd (ho30.lt _ h) (by rw [hs36]; exact Nat.lt_irrefl _)
  replace hE := hE.nx he34
  replace hEk := hEk.nx he34
  replace ho30 := ho30.ext he34
  refine rU (h_appendI (v1 := v29) (v2 := (.slice (some ⟨b33, 0, none⟩) (1) (1))) (i0 := (k : Int)) uT23 ty3 rfl rfl rfl ho30 (hb35.sc (D := fun _ _ => True) trivial rfl dC) (by simp only [maxLen]; simp only [List.length_append, List.length_nil, List.length_take]; omega) (by simp only [List.length_append, List.length_nil, List.length_take]; omega) hEk.size) ?_
  rintro v38 w37 ⟨ho39, hg40⟩
  replace hE := ho30.gbg hg40 hE hlo hE.size
  replace hEk := ho30.gbe hg40 hEk (Nat.le_refl _) hEk.size
  refine aS (v := v38) rfl (RL.nil (wregion (mV (v := v38) rfl (mV hs7 (mV (v := (iv r10)) rfl ?_)))))
  replace hPo := ((hPo.tr (hQ.gsm hg31 (fun b hb hd => absurd hd.2 (Nat.not_lt_of_le hb)))).tr (Sm.ext he34)).tr (ho30.gsm hg40 (fun b hb hd => absurd hd.2 (Nat.not_lt_of_le hb)))
  have r41 := hPo.drop (r10) oM hv24
  refine rV (r_sl (l := (r10 : Int)) (kk := r10) uT23 ty3 hv24 rfl oM oM) ?_
  refine rU (h_appendIs (v1 := v38) (v2 := (.slice (if c23 = r10 then (A22 : Option Addr) else (A22 : Option Addr).map (·.add (r10 * 1))) (L.length - r10) (c23 - r10))) (xs := (([] ++ (L.take (r10))) ++ [(k : Int)])) (ys := (L.drop (r10))) uT23 ty3 rfl rfl rfl ho39 r41 (by simp only [maxLen]; simp only [List.length_append, List.length_nil, List.length_take, List.length_drop, List.length_singleton]; omega) (by simp only [List.length_append, List.length_nil, List.length_take, List.length_drop, List.length_singleton]; omega) hEk.size) ?_
  rintro v43 w42 ⟨ho44, hg45⟩
  replace hE := ho39.gbg hg45 hE hlo hE.size
  replace hEk := ho39.gbe hg45 hEk (Nat.le_refl _) hEk.size
  refine aS (v := v43) rfl (RL.nil (wregion (mV hs6 (rV (r_add (k := .i64) (a := (k : Int)) (b := 1) (c := (k : Int) + 1) rfl rfl (wi64 oM)) (aS (v := (iv ((k : Int) + 1))) rfl (RL.nil ?_))))))
  replace hbt := ho39.gbk hg45 (ho30.gbk hg40 ((hQ.gbk hg31 (hbt.ext he19) dC).ext he34) dC) dC
  replace hv := (((((hv.tr (Gro.sm hg16 (fun k T h hd => by cases h; exact hDv T hd.1))).tr (Sm.ext he19)).tr (hQ.gsm hg31 (fun b hb hd => absurd hd.2 (Nat.not_lt_of_le (Nat.le_trans hlo hb))))).tr (Sm.ext he34)).tr (ho30.gsm hg40 (fun b hb hd => absurd hd.2 (Nat.not_lt_of_le (Nat.le_trans hlo hb))))).tr (ho39.gsm hg45 (fun b hb hd => absurd hd.2 (Nat.not_lt_of_le (Nat.le_trans hlo hb))))
  refine ⟨(k + 1, ((([] ++ (L.take (r10))) ++ [(k : Int)]) ++ (L.drop (r10))), v43, at11), ⟨?_, ?_, ?_, ?_, ?_, ?_, ?_, ?_, ?_, ?_, ?_⟩, ?_⟩
  · exact (by repeat (first | exact hoff5 | refine Off.st ?_ dC _))
  · first | rfl | exact int_eq oM | exact bool_eq (by simp)
  · first | rfl | exact int_eq oM | exact bool_eq (by simp)
  · omega
  · exact (isp_ins hL hp oM).2
  · exact (isp_ins hL hp oM).1
  · omega
  · exact ho44.sg (fun _ h => Nat.le_trans hlo h)
  · exact hbt
  · exact hE
  · exact hv
  (try dsimp only)
  omega
 refine wexit ?_
 refine wsr (mV hs7 (aS (v := vp) rfl (RL.nil ?_)))
 refine wret ?_
 refine ⟨[vp], ⟨rfl, trivial⟩, ?_⟩
 exact ⟨⟨L, at1, hat, hbt, hP, by omega, hp⟩, hE.exc⟩
end Go.Proofs.YtelbjmhhbeijkaaGreat
namespace Go.Proofs.YtelbjmhhbeijkaaGreat
open Go.Vg Go.RowKit _root_.Go.Proofs.Tryz
set_option linter.unusedVariables false
open Go.Vm
theorem wabs {P : Program} {n : Nat} {f : Nat → Value} {w : World} {Q : Po} {c : Code} (h : ∀ Q' : Po, (∀ f w, Q.nrm f w → Q'.nrm f w) → (∀ i f w, Q.ext i f w → Q'.ext i f w) → (∀ f w, Q.ret f w → Q'.ret f w) → WP P n c Q' f w) : WP P n c Q f w := h Q (fun _ _ h => h) (fun _ _ _ h => h) (fun _ _ h => h)
theorem mem_tk {p : List Int} {j k : Nat} (hj : j < k) (hk : k ≤ p.length) : p.getD j default ∈ p.take k := by
  rw [List.getD_eq_getElem?_getD, List.getElem?_eq_getElem oM]
  exact List.mem_iff_getElem.2 ⟨j, by rw [List.length_take]; omega, List.getElem_take⟩
theorem notin_tk {p : List Int} {j : Nat} {x : Int} (hj : j < p.length) (h : x ∉ p.take j) (hx : ¬ p.getD j default = x) : x ∉ p.take (j + 1) := by
  rw [take_snoc p j hj]
  intro hm
  rcases List.mem_append.1 hm with g | g
  · exact h g
  exact hx (List.mem_singleton.1 g).symm
set_option maxHeartbeats 1000000 in
theorem h_firsti {w : World} {Dp : Nat → TypeId → Prop} {vp : Value} {p : List Int} (hp0 : Sg (gI .i64) Dp w vp p) {n : Nat} (hn : n ≤ 1048576) :
    Calls Tryz.prog 7 #[vp, (iv n)] w fun e w' => ∃ v, e = .returned v ∧ Sg (gI .i64) Dp w' v (p.take n) ∧ Ext w w' := by
 have hE : Below w.heap.size w w := Below.refl _ _
 have hp := hp0.old
 clear hp0
 refine calls_of (n := 13) (rs := [.tmp 4]) func7 rfl rfl rfl bL ?_
 refine wset fun F0 hF0 => ?_
 refine wsr (aS (v := (.slice none (0) (0))) rfl (RL.nil (wseq (wsr (mV (v := vp) (hF0 0) ?_)))))
 obtain ⟨A1, c2, hv3, hc4, hc5⟩ := hp.len
 refine rV (r_len uT23 hv3) (mV (v := (iv n)) (hF0 1) (rV (r_gtr (k := .i64) (a := ((p.length : Nat) : Int)) (b := (n : Int)) rfl rfl) (RL.nil ?_)))
 refine wcD (p := (n : Int) < ((p.length : Nat) : Int)) rfl (fun hb6 hb6p => ?_) (fun hb6 hb6p => ?_)
 ·refine wsr ?_
  refine mV (v := vp) (hF0 0) (mV (v := (iv n)) (hF0 1) ?_)
  have r7 := hp.take (n) oM hv3
  refine rV (r_sh (h := (n : Int)) (kk := n) uT23 ty3 hv3 rfl oM oM) (aS (v := (.slice A1 (n) (c2))) rfl (RL.nil ?_))
  refine wret ?_
  refine ⟨[(.slice A1 (n) (c2))], ⟨rfl, trivial⟩, ?_⟩
  exact ⟨r7.mono (fun _ _ h => h.1), hE⟩
 refine wskip ?_
 refine wsr (mV (v := vp) (hF0 0) (aS (v := vp) rfl (RL.nil ?_)))
 refine wret ?_
 refine ⟨[vp], ⟨rfl, trivial⟩, ?_⟩
 rw [List.take_of_length_le oM]
 exact ⟨hp.mono (fun _ _ h => h.1), hE⟩
set_option maxHeartbeats 1000000 in
theorem r06_isp {w : World} {Dp : Nat → TypeId → Prop} {vp : Value} {p : List Int} (hp0 : Sg (gI .i64) Dp w vp p) (lnp : p.length ≤ 1048576) :
    Calls Tryz.prog 32 #[vp] w fun e w' => ∃ v, e = .returned v ∧ (∃ r : Bool, v = .bool r ∧ (r = true ↔ IsP p)) ∧ Ext w w' := by
 have hE : Below w.heap.size w w := Below.refl _ _
 have hp := hp0.old
 clear hp0
 refine calls_of (n := 39) (rs := [.tmp 2]) func32 rfl rfl rfl bL ?_
 refine wset fun F0 hF0 => ?_
 refine wsr (aS (v := (.bool false)) rfl (RL.nil (wseq (wsr (aS (v := (iv 0)) rfl (RL.nil ?_))))))
 refine wblock ?_
 refine wset fun F1 hF2 => ?_
 refine wloop (σ := Nat) (fun (k : Nat) fl wl => Off (rg 2 37 []) F1 fl ∧ fl 3 = (iv k) ∧ (k ≤ p.length) ∧ (∀ x ∈ p.take k, 0 ≤ x ∧ x < (p.length : Int)) ∧ ((p.take k).Nodup) ∧ (Sg (gI .i64) (fun b T => Dp b T ∧ b < w.heap.size) wl vp p) ∧ (Below w.heap.size w wl)) (fun (k : Nat) => p.length - k) (0) ?_ ?_
 ·exact ⟨Off.refl _ _, (hF2 3).trans (rfl), Nat.zero_le _, (fun x hx => by simp at hx), by simp, hp, hE⟩
 clear hp hE
 rintro k f3 w4 ⟨hoff5, hs6, hk, hr, hnd, hp, hE⟩
 refine wseq (wsr (mV hs6 (mV (v := vp) ((hoff5 0 rfl).trans ((hF2 0).trans (hF0 0))) ?_)))
 obtain ⟨A7, c8, hv9, hc10, hc11⟩ := hp.len
 refine rV (r_len uT23 hv9) (rV (r_lss (k := .i64) (a := (k : Int)) (b := ((p.length : Nat) : Int)) rfl rfl) (RL.nil ?_))
 refine wcD (p := (k : Int) < ((p.length : Nat) : Int)) rfl (fun hb12 hb12p => ?_) (fun hb12 hb12p => ?_)
 ·refine wskip ?_
  refine wseq ?_
  refine wblock ?_
  refine wseq (wseq ?_)
  have hkl : k < p.length := by omega
  refine wregion (mV (v := vp) ((hoff5 0 rfl).trans ((hF2 0).trans (hF0 0))) (mV hs6 ?_))
  obtain ⟨b13, o14, c15, hv16, hc17⟩ := hp.ix (i := (k : Int)) (k) oM oM
  refine rV (r_indexAddr (i := (k : Int)) uT23 ty3 hv16 rfl oM oM) (rV (r_load (v := (iv (p.getD (k) default))) uT3 ag3 rfl hc17) (rV (r_lss (k := .i64) (a := p.getD (k) default) (b := 0) rfl rfl) (mV (v := (bd ((p.getD (k) default) < 0))) rfl ?_)))
  rcases bD ((p.getD (k) default) < 0) with ⟨hb18, hb18p⟩ | ⟨hb18, hb18p⟩
  ·have hbad := hb18p
   refine RL.gno rfl rfl (bool_eq hb18) rfl dC ?_
   refine RL.gno rfl rfl (bool_eq hb18) rfl dC ?_
   refine RL.gno rfl rfl (bool_eq hb18) rfl dC ?_
   refine RL.gno rfl rfl (bool_eq hb18) rfl dC ?_
   refine RL.gno rfl rfl (bool_eq hb18) rfl dC ?_
   refine RL.gno rfl rfl (bool_eq hb18) rfl dC ?_
   refine RL.gno rfl rfl (bool_eq hb18) rfl dC ?_
   refine rV (r_pick_t (v := (.bool true)) (bool_eq hb18) rfl) (RL.nil ?_)
   refine wcond_t rfl ?_
   refine wsr (aS (v := (.bool false)) rfl (RL.nil ?_))
   refine wret ?_
   refine ⟨[(.bool false)], ⟨rfl, trivial⟩, ?_⟩
   exact ⟨⟨_, rfl, (fun h => by cases h), fun h => absurd h (by first | exact isp_dup hkl hin | exact isp_no hkl oM)⟩, hE⟩
  have hlow := hb18p
  refine RL.gval rfl rfl (bool_eq hb18) rfl dC (r_move_as (v := vp) ((hoff5 0 rfl).trans ((hF2 0).trans (hF0 0)))) ?_
  refine RL.gval rfl rfl (bool_eq hb18) rfl dC (r_move_as (v := (iv k)) hs6) ?_
  obtain ⟨b19, o20, c21, hv22, hc23⟩ := hp.ix (i := (k : Int)) (k) oM oM
  refine RL.gval rfl rfl (bool_eq hb18) rfl dC (r_indexAddr (i := (k : Int)) uT23 ty3 hv22 rfl oM oM) ?_
  refine RL.gval rfl rfl (bool_eq hb18) rfl dC (r_load (v := (iv (p.getD (k) default))) uT3 ag3 rfl hc23) ?_
  refine RL.gval rfl rfl (bool_eq hb18) rfl dC (r_move_as (v := vp) ((hoff5 0 rfl).trans ((hF2 0).trans (hF0 0)))) ?_
  refine RL.gval rfl rfl (bool_eq hb18) rfl dC (r_len uT23 hv9) ?_
  refine RL.gval rfl rfl (bool_eq hb18) rfl dC (r_geq (k := .i64) (a := p.getD (k) default) (b := ((p.length : Nat) : Int)) rfl rfl) ?_
  refine rV (r_pick_f (v := (bd (((p.length : Nat) : Int) ≤ (p.getD (k) default)))) (bool_eq hb18) rfl) (RL.nil ?_)
  refine wcD (p := ((p.length : Nat) : Int) ≤ (p.getD (k) default)) rfl (fun hb24 hb24p => ?_) (fun hb24 hb24p => ?_)
  ·have hbad := hb24p
   refine wsr (aS (v := (.bool false)) rfl (RL.nil ?_))
   refine wret ?_
   refine ⟨[(.bool false)], ⟨rfl, trivial⟩, ?_⟩
   exact ⟨⟨_, rfl, (fun h => by cases h), fun h => absurd h (by first | exact isp_dup hkl hin | exact isp_no hkl oM)⟩, hE⟩
  have hhigh := hb24p
  refine wskip ?_
  refine wsr (aS (v := (iv 0)) rfl (RL.nil ?_))
  refine wblock ?_
  refine wset fun F25 hF26 => ?_
  refine wloop (σ := Nat) (fun (j : Nat) fl wl => Off (2 :: (4 :: (rg 25 14 []))) F25 fl ∧ fl 4 = (iv j) ∧ (j ≤ k) ∧ (p.getD (k) default ∉ p.take j) ∧ (Sg (gI .i64) (fun b T => Dp b T ∧ b < w.heap.size) wl vp p) ∧ (Below w.heap.size w wl)) (fun (j : Nat) => k - j) (0) ?_ ?_
  ·exact ⟨Off.refl _ _, (hF26 4).trans (rfl), Nat.zero_le _, by simp, hp, hE⟩
  clear hp hE
  rintro j f27 w28 ⟨hoff29, hs30, hj, hnj, hp, hE⟩
  refine wseq (wsr (mV hs30 (mV (v := (iv k)) ((hoff29 3 rfl).trans ((hF26 3).trans hs6)) (rV (r_lss (k := .i64) (a := (j : Int)) (b := (k : Int)) rfl rfl) (RL.nil ?_)))))
  refine wcD (p := (j : Int) < (k : Int)) rfl (fun hb31 hb31p => ?_) (fun hb31 hb31p => ?_)
  ·refine wskip ?_
   refine wseq ?_
   refine wblock ?_
   refine wseq ?_
   refine wdraw mixed fun w32 he33 => ?_
   replace hE := hE.nx he33
   refine ra 0 rfl (fun _ => r_move_as (v := vp) ((hoff29 0 rfl).trans ((hF26 0).trans ((hoff5 0 rfl).trans ((hF2 0).trans (hF0 0)))))) ?_
   refine ra 1 rfl (fun _ => r_move_as (v := (iv j)) hs30) ?_
   replace hp := hp.tr (Sm.ext he33)
   obtain ⟨b34, o35, c36, hv37, hc38⟩ := hp.ix (i := (j : Int)) (j) oM oM
   refine ra 2 rfl (fun _ => r_indexAddr (i := (j : Int)) uT23 ty3 hv37 rfl oM oM) ?_
   refine RA.rd 3 rfl kR rfl rfl rfl dC (Ext.refl _) (fun u hu => r_load (v := (iv (p.getD (j) default))) uT3 ag3 rfl (cell_ext hu hc38)) ?_
   refine ra 4 rfl (fun _ => r_move_as (v := vp) ((hoff29 0 rfl).trans ((hF26 0).trans ((hoff5 0 rfl).trans ((hF2 0).trans (hF0 0)))))) ?_
   refine ra 5 rfl (fun _ => r_move_as (v := (iv k)) ((hoff29 3 rfl).trans ((hF26 3).trans hs6))) ?_
   obtain ⟨b39, o40, c41, hv42, hc43⟩ := hp.ix (i := (k : Int)) (k) oM oM
   refine ra 6 rfl (fun _ => r_indexAddr (i := (k : Int)) uT23 ty3 hv42 rfl oM oM) ?_
   refine RA.rd 7 rfl kR rfl rfl rfl dC (Ext.refl _) (fun u hu => r_load (v := (iv (p.getD (k) default))) uT3 ag3 rfl (cell_ext hu hc43)) ?_
   refine ra 8 rfl (fun _ => r_eql (k := .i64) (a := p.getD (j) default) (b := p.getD (k) default) rfl rfl) ?_
   refine RA.done kR ?_
   refine wcD (p := (p.getD (j) default) = (p.getD (k) default)) rfl (fun hb44 hb44p => ?_) (fun hb44 hb44p => ?_)
   ·have hin : p.getD k default ∈ p.take k := hb44p ▸ mem_tk oM oM
    refine wsr (aS (v := (.bool false)) rfl (RL.nil ?_))
    refine wret ?_
    refine ⟨[(.bool false)], ⟨rfl, trivial⟩, ?_⟩
    exact ⟨⟨_, rfl, (fun h => by cases h), fun h => absurd h (by first | exact isp_dup hkl hin | exact isp_no hkl oM)⟩, hE⟩
   have hdf := hb44p
   refine wskip ?_
   refine wregion (mV hs30 (rV (r_add (k := .i64) (a := (j : Int)) (b := 1) (c := (j : Int) + 1) rfl rfl (wi64 oM)) (aS (v := (iv ((j : Int) + 1))) rfl (RL.nil ?_))))
   refine ⟨(j + 1), ⟨?_, ?_, ?_, ?_, ?_, ?_⟩, ?_⟩
   · exact (by repeat (first | exact hoff29 | refine Off.st ?_ dC _ | refine Off.via hoff5 dC ?_ | refine Off.eq hF2 ?_))
   · first | rfl | exact int_eq oM | exact bool_eq (by simp)
   · omega
   · exact notin_tk oM hnj hdf
   · exact hp
   · exact hE
   (try dsimp only)
   omega
  refine wexit ?_
  refine wregion (mV (v := (iv k)) ((hoff29 3 rfl).trans ((hF26 3).trans hs6)) (rV (r_add (k := .i64) (a := (k : Int)) (b := 1) (c := (k : Int) + 1) rfl rfl (wi64 oM)) (aS (v := (iv ((k : Int) + 1))) rfl (RL.nil ?_))))
  refine ⟨(k + 1), ⟨?_, ?_, ?_, ?_, ?_, ?_, ?_⟩, ?_⟩
  · exact (by repeat (first | exact hoff5 | refine Off.st ?_ dC _ | refine Off.via hoff29 dC ?_ | refine Off.eq hF26 ?_))
  · first | rfl | exact int_eq oM | exact bool_eq (by simp)
  · omega
  · rw [take_snoc p k hkl]; intro x hx; rcases List.mem_append.1 hx with h | h; exact hr x h; rw [List.mem_singleton.1 h]; exact ⟨by omega, by omega⟩
  · rw [show j = k by omega] at hnj; rw [take_snoc p k hkl, List.nodup_append]; exact ⟨hnd, by simp, fun a ha b hb => by rw [List.mem_singleton.1 hb]; exact fun he => hnj (he ▸ ha)⟩
  · exact hp
  · exact hE
  (try dsimp only)
  omega
 refine wexit ?_
 refine wsr (aS (v := (.bool true)) rfl (RL.nil ?_))
 refine wret ?_
 refine ⟨[(.bool true)], ⟨rfl, trivial⟩, ?_⟩
 rw [List.take_of_length_le oM] at hr hnd
 exact ⟨⟨_, rfl, (fun _ => ⟨hr, hnd⟩), fun _ => rfl⟩, hE⟩
end Go.Proofs.YtelbjmhhbeijkaaGreat
