/- VectorDense, second form: for arguments of bulk at most 1048576 the law returns true and the arguments read as before; no other condition. Part 7 of 8: Yc Yd Td Te Tf Tg Th Ti Tj Ye Yf Vgu Da Db Dc Dd De Zo Zq. -/
import Derived.Test.YtelbjmhhbeijkaaGreatRows
import Derived.Deep.SlicePairs
import Derived.Test.YtelbjmhhbeijkaaGreatK6
set_option linter.unusedVariables false
set_option linter.unusedSimpArgs false
namespace Go.Proofs.YtelbjmhhbeijkaaGreat
open Go.Vg Go.RowKit _root_.Go.Proofs.Tryz
set_option linter.unusedVariables false
open Go.Vm
def nrK (es : List Ent') (cl : List Int) : Nat → List Ent'
  | 0 => []
  | k + 1 => if get es (cl.getD k default) = 0 then nrK es cl k else nrK es cl k ++ [(cl.getD k default, get es (cl.getD k default))]
theorem nrK_len (es : List Ent') (cl : List Int) : ∀ k, (nrK es cl k).length ≤ k
  | 0 => Nat.le_refl _
  | k + 1 => by
    have := nrK_len es cl k
    unfold nrK
    split
    · omega
    rw [List.length_append, List.length_singleton]; omega
theorem nrK_in (es : List Ent') (cl : List Int) : ∀ k, k ≤ cl.length → ∀ e ∈ nrK es cl k, e.1 ∈ cl.take k
  | 0, _, _, h => by cases h
  | k + 1, hk, e, h => by
    rw [take_snoc cl k oM]
    unfold nrK at h
    split at h
    · exact List.mem_append_left _ (nrK_in es cl k oM e h)
    rcases List.mem_append.1 h with h | h
    · exact List.mem_append_left _ (nrK_in es cl k oM e h)
    rw [List.mem_singleton.1 h]; exact List.mem_append_right _ (by simp)
theorem sa_tk {cl : List Int} (h : SA cl) {k : Nat} (hk : k < cl.length) : ∀ y ∈ cl.take k, y < cl.getD k default := fun y hy => by
  obtain ⟨j, hj, rfl⟩ := List.mem_iff_getElem.1 hy
  rw [List.length_take] at hj
  rw [List.getElem_take, List.getD_eq_getElem?_getD, List.getElem?_eq_getElem hk]
  exact List.pairwise_iff_getElem.1 h j k oM hk oM
theorem nrK_asc (es : List Ent') {cl : List Int} (h : SA cl) : ∀ k, k ≤ cl.length → Asc (nrK es cl k)
  | 0, _ => List.Pairwise.nil
  | k + 1, hk => by
    unfold nrK
    split
    · exact nrK_asc es h k oM
    refine List.pairwise_append.2 ⟨nrK_asc es h k oM, List.pairwise_singleton _ _, fun a ha b hb => ?_⟩
    rw [List.mem_singleton.1 hb]
    exact sa_tk h oM _ (nrK_in es cl k oM a ha)
theorem nrK_nz (es : List Ent') (cl : List Int) : ∀ k, NonZ (nrK es cl k)
  | 0 => fun _ h => by cases h
  | k + 1 => by
    unfold nrK
    split
    · exact nrK_nz es cl k
    rename_i h
    intro e he
    rcases List.mem_append.1 he with g | g
    · exact nrK_nz es cl k e g
    rw [List.mem_singleton.1 g]; exact h
theorem nrK_get (es : List Ent') {cl : List Int} (h : SA cl) (i : Int) : ∀ k, k ≤ cl.length → get (nrK es cl k) i = if i ∈ cl.take k then get es i else 0
  | 0, _ => by rw [if_neg (by simp)]; rfl
  | k + 1, hk => by
    have ih := nrK_get es h i k oM
    have e1 : get [(cl.getD k default, get es (cl.getD k default))] i = if cl.getD k default = i then get es (cl.getD k default) else 0 := Rat.add_zero _
    rw [take_snoc cl k oM]
    by_cases hi : cl.getD k default = i
    · subst hi
      have hn : cl.getD k default ∉ cl.take k := fun hm => by have := sa_tk h (k := k) oM _ hm; omega
      rw [if_neg hn] at ih
      rw [if_pos (List.mem_append_right _ (by simp))]
      unfold nrK
      split
      · rename_i h0; rw [ih, h0]
      rw [get_append, ih, e1, if_pos rfl, Rat.zero_add]
    rw [if_neg hi] at e1
    have e2 : get (nrK es cl (k + 1)) i = get (nrK es cl k) i := by
      rw [nrK]
      split
      · rfl
      rw [get_append, e1, Rat.add_zero]
    have hc : (i ∈ cl.take k ++ [cl.getD k default]) ↔ i ∈ cl.take k := by
      rw [List.mem_append, List.mem_singleton]
      exact ⟨fun g => g.elim id (fun g => absurd g.symm hi), .inl⟩
    rw [e2, ih]
    simp only [hc]
theorem nr_get {es : List Ent'} {cl : List Int} (h : Ix cl es) (i : Int) : get (nrK es cl cl.length) i = get es i := by
  rw [nrK_get es h.1 i _ (Nat.le_refl _), List.take_of_length_le (Nat.le_refl _)]
  split
  · rfl
  rename_i g
  exact (get_none fun e he hh => g ((h.2 i).2 ⟨e, he, hh⟩)).symm
set_option maxHeartbeats 4000000 in
theorem r06_norm {w : World} {L : Nat} {Des : Nat → TypeId → Prop} {ves : Value} {es : List Ent'} (hes0 : Es L Des w ves es) {M : Nat} (hM : (es.length + 1) * (L + 3) + 3 ≤ M) (hMB : M ≤ 8589934000) (hln : es.length ≤ 1048576) :
    Calls Tryz.prog 31 #[ves] w fun e w' => ∃ v, e = .returned v ∧ (∃ rs, Oe M (fun b T => w.heap.size ≤ b ∧ T = 89) w' w.heap.size 55 v rs ∧ Asc rs ∧ NonZ rs ∧ (∀ i, get rs i = get es i) ∧ rs.length ≤ es.length) ∧ Ext w w' := by
 have hE : Below w.heap.size w w := Below.refl _ _
 have hes := hes0.old
 clear hes0
 refine calls_of (n := 29) (rs := [.tmp 2]) func31 rfl rfl rfl bL ?_
 refine wset fun F0 hF0 => ?_
 refine wsr (aS (v := (.slice none (0) (0))) rfl (RL.nil (wsr (aS (v := (.slice none (0) (0))) rfl (RL.nil (wseq (wsr (mV (v := ves) (hF0 0) ?_))))))))
 refine rU (h_lit (vl := [(0, ves)]) (cs := [ves]) uT105 ty22 rfl dC (by obtain ⟨_, _, e0_, -, -⟩ := hes.len; simp only [e0_]; first | (simp [Instr.fill, Value.cells]; done) | kernel_rfl)) ?_
 rintro _ w1 ⟨b2, rfl, hs5, hb4, he3⟩
 have ge_b2 := hE.ge hs5
 replace hes := hes.tr (Sm.ext he3)
 refine cL ent53 (r06_ind hes hb4 oM) rfl ?_
 rintro vc8 w6 ⟨⟨cl12, hIx10, hcl11, hC9⟩, he7⟩
 replace hE := (hE.nx he3).nx he7
 have hCo := hC9.old
 have hlo : w.heap.size ≤ w6.heap.size := hE.size
 have hEk : Below w6.heap.size w6 w6 := Below.refl _ _
 obtain ⟨A13, c14, hv15, hc16, hc17⟩ := hCo.len
 refine rV (r_len uT23 hv15) (mV (v := (iv 0)) rfl (RL.nil ?_))
 refine wblock ?_
 refine wset fun F18 hF19 => ?_
 refine wloop (σ := Nat × Value) (fun (s : Nat × Value) fl wl => match s with | (k, vr) => Off (3 :: (rg 5 2 (rg 11 17 []))) F18 fl ∧ fl 11 = (iv k) ∧ fl 3 = vr ∧ (k ≤ cl12.length) ∧ (Oe M (fun b T => w.heap.size ≤ b ∧ T = 89) wl w6.heap.size 55 vr (nrK es cl12 k)) ∧ (Es L (fun b T => Des b T ∧ b < w.heap.size) wl ves es) ∧ (Below w.heap.size w wl) ∧ (Sg (gI .i64) (fun b T => (fun b _ => w1.heap.size ≤ b) b T ∧ b < w6.heap.size) wl vc8 cl12) ∧ (Below w6.heap.size w6 wl)) (fun (s : Nat × Value) => match s with | (k, vr) => cl12.length - k) (0, (.slice none 0 0)) ?_ ?_
 ·replace hes := hes.tr (Sm.ext he7)
  exact ⟨Off.refl _ _, (hF19 11).trans (rfl), (hF19 3).trans (rfl), Nat.zero_le _, Oe.nil, hes, hE, hCo, hEk⟩
 clear hes hE hCo hEk
 rintro ⟨k, vr⟩ f20 w21 ⟨G22, hs23, hs24, hk, hR, hes, hE, hCo, hEk⟩
 refine wsr (rV (r_lss (k := .i64) (a := (k : Int)) (b := ((cl12.length : Nat) : Int)) hs23 ((G22 10 rfl).trans (hF19 10))) (RL.nil (wseq ?_)))
 refine wcD (p := (k : Int) < ((cl12.length : Nat) : Int)) rfl (fun hb25 hb25p => ?_) (fun hb25 hb25p => ?_)
 ·refine wskip ?_
  refine wseq ?_
  refine wblock ?_
  refine wseq ?_
  have hfl := nrK_len es cl12 k
  refine wregion ?_
  obtain ⟨b26, o27, c28, hv29, hc30⟩ := hCo.ix (i := (k : Int)) (k) oM oM
  refine rV (r_indexAddr (i := (k : Int)) uT23 ty3 ((((G22 9 rfl).trans (hF19 9))).trans hv29) hs23 oM oM) (rV (r_load (v := (iv (cl12.getD (k) default))) uT3 ag3 rfl hc30) (aS (v := (iv (cl12.getD (k) default))) rfl (RL.nil (wsr (mV (v := ves) ((G22 0 rfl).trans ((hF19 0).trans (hF0 0))) (mV (v := (iv (cl12.getD (k) default))) rfl ?_))))))
  refine cL ent39 (r06_get (L := L) (M := M) (i := cl12.getD (k) default) hes hM hMB) rfl ?_
  rintro _ w31 ⟨⟨vn33, vd34, rfl, hn35, hd36, ln37, ln38⟩, he32⟩
  replace hn35 := hn35.fr hE
  replace hd36 := hd36.fr hE
  replace hE := hE.nx he32
  replace hEk := hEk.nx he32
  refine rU (h_alloc (cs := [(.bool false), (.slice none 0 0), (.slice none 0 0)]) ty44 rfl) ?_
  rintro _ w39 ⟨b40, rfl, hs43, hb42, he41⟩
  have ge_b40 := hE.ge hs43
  have gk_b40 := hEk.ge hs43
  replace hR := hR.ext he32
  have on_vr_b40 : vr.ownBlock ≠ some b40 := fun h => absurd (hR.lt _ h) (by rw [hs43]; exact Nat.lt_irrefl _)
  refine RL.runs rfl rfl (h_stA (cs := [(bd ((get es (cl12.getD (k) default)).num < 0)), vn33, vd34]) (o := 0) ty44 rfl rfl rfl rfl (one_cons rfl (one_cons hn35.one (one_cons hd36.one one_nil))) hb42 bL) ?_
  rintro w44 ⟨hn45, hx46, hz47⟩
  have nb_hx46 := (Nb.of hb42 (nu_cons rfl (nu_cons rfl (nu_cons rfl nu_nil))))
  replace hb42 : Bk w44 b40 44 [(bd ((get es (cl12.getD (k) default)).num < 0)), vn33, vd34] := hn45
  refine RL.nil (wsr ?_)
  have hc48 := hb42.cells (o := 0) (cs := [(bd ((get es (cl12.getD (k) default)).num < 0)), vn33, vd34]) rfl
  refine rV (r_loada (o := 0) (cs := [(bd ((get es (cl12.getD (k) default)).num < 0)), vn33, vd34]) uT44 ag44 ty44 rfl hc48) ?_
  replace hn35 := (hn35.tr (Sm.ext he41)).apn hx46 nb_hx46
  replace hd36 := (hd36.tr (Sm.ext he41)).apn hx46 nb_hx46
  refine RL.call rfl rfl dC (r_call (vl := [(.agg #[(bd ((get es (cl12.getD (k) default)).num < 0)), vn33, vd34])]) ent54 rfl) (r03_sign hn35 (digs_lm _) oS hd36 (digs_lm _) oS (ratOf_canon _)) ?_
  rintro _ w49 ⟨rfl, he50⟩
  replace hE := ((hE.nx he41).nb hx46 ge_b40).nx he50
  replace hEk := ((hEk.nx he41).nb hx46 gk_b40).nx he50
  refine rV (r_neq (k := .i64) (a := Int.sign (get es (cl12.getD (k) default)).num) (b := 0) rfl rfl) (RL.nil ?_)
  refine wcD (p := (Int.sign (get es (cl12.getD (k) default)).num) ≠ 0) rfl (fun hb51 hb51p => ?_) (fun hb51 hb51p => ?_)
  ·have hnz : ¬ (get es (cl12.getD (k) default)) = 0 := fun h => hb51p ((sign_eq _).2 h)
   refine wregion (mV hs24 (mV (v := (iv (cl12.getD (k) default))) rfl ?_))
   replace hb42 := hb42.ext he50
   have hc52 := hb42.cells (o := 0) (cs := [(bd ((get es (cl12.getD (k) default)).num < 0)), vn33, vd34]) rfl
   refine rV (r_loada (o := 0) (cs := [(bd ((get es (cl12.getD (k) default)).num < 0)), vn33, vd34]) uT44 ag44 ty44 rfl hc52) (rV (r_build (vl := [(0, (iv (cl12.getD (k) default))), (1, (.agg #[(bd ((get es (cl12.getD (k) default)).num < 0)), vn33, vd34]))]) (cs := [(iv (cl12.getD (k) default)), (bd ((get es (cl12.getD (k) default)).num < 0)), vn33, vd34]) uT55 ty55 rfl (pl55 uT55) rfl) ?_)
   refine rU (h_lit (vl := [(0, (.agg #[(iv (cl12.getD (k) default)), (bd ((get es (cl12.getD (k) default)).num < 0)), vn33, vd34]))]) (cs := [(iv (cl12.getD (k) default)), (bd ((get es (cl12.getD (k) default)).num < 0)), vn33, vd34]) uT22 ty55 rfl dC (by first | (simp [Instr.fill, Value.cells]; done) | rfl | kernel_rfl)) ?_
   rintro _ w53 ⟨b54, rfl, hs57, hb56, he55⟩
   have lt_b40_b54 := Nat.lt_of_lt_of_eq hb42.lt hs57.symm
   have ge_b54 := hE.ge hs57
   replace hR := ((hR.ext he41).exo hx46 on_vr_b40 nb_hx46).ext he50
   replace hE := hE.nx he55
   replace hEk := hEk.nx he55
   replace hn35 := hn35.tr (Sm.ext (Ext.trans he50 he55))
   replace hd36 := hd36.tr (Sm.ext (Ext.trans he50 he55))
   have hrk : Rk M (fun b T => w.heap.size ≤ b ∧ T = 89) w53 (decide ((get es (cl12.getD (k) default)).num < 0), vn33, vd34) (get es (cl12.getD (k) default)) := ⟨rfl, hn35, hd36, by omega, by omega⟩
   replace hR := hR.ext he55
   refine rU (h_appendE (v1 := vr) (v2 := (.slice (some ⟨b54, 0, none⟩) (1) (1))) (q := get es (cl12.getD (k) default)) uT22 ty55 rfl rfl rfl hR (hb56.sc (D := fun _ _ => True) trivial rfl dC) hrk (fun _ h => absurd h.2 dC) (by simp only [maxLen]; omega) oM hEk.size) ?_
   rintro v59 w58 ⟨ho60, hg61⟩
   replace hE := hR.gbl hg61 hE hlo hE.size
   replace hEk := hR.gbl hg61 hEk (Nat.le_refl _) hEk.size
   refine aS (v := v59) rfl (RL.nil (wregion (rV (r_add (k := .i64) (a := (k : Int)) (b := 1) (c := (k : Int) + 1) hs23 rfl (wi64 oM)) (mV (v := (iv ((k : Int) + 1))) rfl (RL.nil ?_)))))
   replace hes := (((hes.tr (Sm.ext (Ext.trans he32 he41))).tr (Sm.exc hx46 (fun _ _ _ _ hd => absurd hd.2 (Nat.not_lt_of_le ge_b40)))).tr (Sm.ext (Ext.trans he50 he55))).tr (hR.gsm hg61 (fun b hb hd => absurd hd.2 (Nat.not_lt_of_le (Nat.le_trans hlo hb))))
   replace hCo := (((hCo.tr (Sm.ext (Ext.trans he32 he41))).tr (Sm.exc hx46 (fun _ _ _ _ hd => absurd hd.2 (Nat.not_lt_of_le gk_b40)))).tr (Sm.ext (Ext.trans he50 he55))).tr (hR.gsm hg61 (fun b hb hd => absurd hd.2 (Nat.not_lt_of_le hb)))
   refine ⟨(k + 1, v59), ⟨?_, ?_, ?_, ?_, ?_, ?_, ?_, ?_, ?_⟩, ?_⟩
   · exact (by repeat (first | exact G22 | refine Off.st ?_ dC _))
   · first | rfl | exact int_eq oM | exact bool_eq (by simp)
   · first | rfl | exact int_eq oM | exact bool_eq (by simp)
   · omega
   · rw [nrK, if_neg hnz]; exact ho60
   · exact hes
   · exact hE
   · exact hCo
   · exact hEk
   (try dsimp only)
   omega
  have hz : (get es (cl12.getD (k) default)) = 0 := (sign_eq _).1 (by simpa using hb51p)
  refine wskip ?_
  refine wregion (rV (r_add (k := .i64) (a := (k : Int)) (b := 1) (c := (k : Int) + 1) hs23 rfl (wi64 oM)) (mV (v := (iv ((k : Int) + 1))) rfl (RL.nil ?_)))
  replace hR := ((hR.ext he41).exo hx46 on_vr_b40 nb_hx46).ext he50
  replace hes := ((hes.tr (Sm.ext (Ext.trans he32 he41))).tr (Sm.exc hx46 (fun _ _ _ _ hd => absurd hd.2 (Nat.not_lt_of_le ge_b40)))).tr (Sm.ext he50)
  replace hCo := ((hCo.tr (Sm.ext (Ext.trans he32 he41))).tr (Sm.exc hx46 (fun _ _ _ _ hd => absurd hd.2 (Nat.not_lt_of_le gk_b40)))).tr (Sm.ext he50)
  refine ⟨(k + 1, vr), ⟨?_, ?_, ?_, ?_, ?_, ?_, ?_, ?_, ?_⟩, ?_⟩
  · exact (by repeat (first | exact G22 | refine Off.st ?_ dC _))
  · first | rfl | exact int_eq oM | exact bool_eq (by simp)
  · refine (hs24).trans ?_
    first | rfl | exact int_eq oM | exact bool_eq (by simp)
  · omega
  · rw [nrK, if_pos hz]; exact hR
  · exact hes
  · exact hE
  · exact hCo
  · exact hEk
  (try dsimp only)
  omega
 refine wexit ?_
 refine wsr (mV hs24 (aS (v := vr) rfl (RL.nil ?_)))
 refine wret ?_
 refine ⟨[vr], ⟨rfl, trivial⟩, ?_⟩
 have hR2 := Oe.fr (lo' := w.heap.size) hR hlo (fun _ _ h => h)
 rw [show k = cl12.length by omega] at hR2
 exact ⟨⟨_, hR2, nrK_asc es hIx10.1 _ (Nat.le_refl _), nrK_nz es _ _, nr_get hIx10, Nat.le_trans (nrK_len es _ _) hcl11⟩, hE⟩
end Go.Proofs.YtelbjmhhbeijkaaGreat
namespace Go.Proofs.YtelbjmhhbeijkaaGreat
open Go.Vg Go.RowKit _root_.Go.Proofs.Tryz
set_option linter.unusedVariables false
open Go.Vm
set_option maxHeartbeats 4000000 in
theorem r06_valid {w : World} {L n : Nat} {Des : Nat → TypeId → Prop} {ves : Value} {es : List Ent'} (hes0 : Ec L Des w ves es) (hL : L ≤ 8589934000) (hn : n ≤ 1048576) (hasc : Asc es) (hnz : NonZ es) :
    Calls Tryz.prog 33 #[ves, (iv n)] w fun e w' => ∃ v, e = .returned v ∧ (∃ r : Bool, v = .bool r ∧ (r = true ↔ ∀ e ∈ es, 0 ≤ e.1 ∧ e.1 < (n : Int))) ∧ Ext w w' := by
 have hE : Below w.heap.size w w := Below.refl _ _
 have hes := hes0
 clear hes0
 refine calls_of (n := 54) (rs := [.tmp 4]) func33 rfl rfl rfl bL ?_
 refine wset fun F0 hF0 => ?_
 refine wsr (aS (v := (.bool false)) rfl (RL.nil (wseq (wsr (aS (v := (iv 0)) rfl (RL.nil ?_))))))
 refine wblock ?_
 refine wset fun F1 hF2 => ?_
 refine wloop (σ := Nat) (fun (k : Nat) fl wl => Off (rg 4 50 []) F1 fl ∧ fl 5 = (iv k) ∧ (k ≤ es.length) ∧ (∀ e ∈ es.take k, 0 ≤ e.1 ∧ e.1 < (n : Int)) ∧ (Ec L Des wl ves es) ∧ (Below w.heap.size w wl)) (fun (k : Nat) => es.length - k) (0) ?_ ?_
 ·exact ⟨Off.refl _ _, (hF2 5).trans (rfl), Nat.zero_le _, (fun e he => by simp at he), hes, hE⟩
 clear hes hE
 rintro k f3 w4 ⟨G5, hs6, hk, hin, hes, hE⟩
 refine wseq (wsr (mV hs6 (mV (v := ves) ((G5 0 rfl).trans ((hF2 0).trans (hF0 0))) ?_)))
 obtain ⟨A7, c8, hv9, hc10, hc11⟩ := hes.len
 refine rV (r_len uT22 hv9) (rV (r_lss (k := .i64) (a := (k : Int)) (b := ((es.length : Nat) : Int)) rfl rfl) (RL.nil ?_))
 refine wcD (p := (k : Int) < ((es.length : Nat) : Int)) rfl (fun hb12 hb12p => ?_) (fun hb12 hb12p => ?_)
 ·refine wskip ?_
  refine wseq ?_
  refine wblock ?_
  refine wseq ?_
  have hkl : k < es.length := by omega
  refine wdraw mixed fun w13 he14 => ?_
  replace hE := hE.nx he14
  refine aM 0 rfl (v := ves) ((G5 0 rfl).trans ((hF2 0).trans (hF0 0))) ?_
  refine aM 1 rfl (v := (iv k)) hs6 ?_
  replace hes := hes.tr (Sm.ext he14)
  obtain ⟨b15, o16, c17, A20, B21, hv18, hc19, hx22, hd23, ln24, ln25⟩ := hes.ix (i := (k : Int)) (k) oM oM
  refine ra 2 rfl (fun _ => r_indexAddr (i := (k : Int)) uT22 ty55 hv18 rfl oM oM) ?_
  refine ra 3 rfl (fun _ => r_fieldAddr uT55 rfl ty3 rfl) ?_
  refine aR 4 rfl (fun u hu => r_load (v := (iv ((es.getD (k) default).1))) uT3 ag3 rfl (cell_ext hu (hc19 0 _ rfl))) ?_
  refine ra 5 rfl (fun _ => r_lss (k := .i64) (a := (es.getD (k) default).1) (b := 0) rfl rfl) ?_
  refine aM 6 rfl (v := (bd (((es.getD (k) default).1) < 0))) rfl ?_
  rcases bD (((es.getD (k) default).1) < 0) with ⟨hb26, hb26p⟩ | ⟨hb26, hb26p⟩
  ·refine aN 7 rfl rfl (.inl (bool_eq hb26)) ?_
   refine aN 8 rfl rfl (.inl (bool_eq hb26)) ?_
   refine aN 9 rfl rfl (.inl (bool_eq hb26)) ?_
   refine aN 10 rfl rfl (.inl (bool_eq hb26)) ?_
   refine aN 11 rfl rfl (.inl (bool_eq hb26)) ?_
   refine aN 12 rfl rfl (.inl (bool_eq hb26)) ?_
   refine aN 13 rfl rfl (.inl (bool_eq hb26)) ?_
   refine ra 14 rfl (fun _ => r_pick_t (v := (.bool true)) (bool_eq hb26) rfl) ?_
   refine aM 15 rfl (v := (.bool true)) rfl ?_
   refine aN 16 rfl rfl (.inl rfl) ?_
   refine aN 17 rfl rfl (.inl rfl) ?_
   refine aN 18 rfl rfl (.inl rfl) ?_
   refine aN 19 rfl rfl (.inr rfl) ?_
   refine aN 20 rfl rfl (.inr rfl) ?_
   refine aN 21 rfl rfl (.inr rfl) ?_
   refine aN 22 rfl rfl (.inr rfl) ?_
   refine aN 23 rfl rfl (.inr rfl) ?_
   refine aN 24 rfl rfl (.inr rfl) ?_
   refine aN 25 rfl rfl (.inr rfl) ?_
   refine aN 26 rfl rfl (.inr rfl) ?_
   refine aN 27 rfl rfl (.inr rfl) ?_
   refine aN 28 rfl rfl (.inr rfl) ?_
   refine aN 29 rfl rfl (.inr rfl) ?_
   refine aN 30 rfl rfl (.inr rfl) ?_
   refine aN 31 rfl rfl (.inl rfl) ?_
   refine ra 32 rfl (fun _ => r_pick_t (v := (.bool true)) rfl rfl) ?_
   refine aM 33 rfl (v := (.bool true)) rfl ?_
   refine aN 34 rfl rfl (.inl rfl) ?_
   refine aN 35 rfl rfl (.inl rfl) ?_
   refine aN 36 rfl rfl (.inl rfl) ?_
   refine aN 37 rfl rfl (.inl rfl) ?_
   refine aN 38 rfl rfl (.inl rfl) ?_
   refine RA.all [39] kR rfl ?_
   refine RS.gno rfl rfl rfl (.inl rfl) rfl dC (.inr (.inl kR)) ?_ RS.nil
   refine aN 40 rfl rfl (.inl rfl) ?_
   refine ra 41 rfl (fun _ => r_pick_t (v := (.bool true)) rfl rfl) ?_
   refine RA.done kR ?_
   refine wcond_t rfl ?_
   refine wsr (aS (v := (.bool false)) rfl (RL.nil ?_))
   refine wret ?_
   refine ⟨[(.bool false)], ⟨rfl, trivial⟩, ?_⟩
   exact ⟨⟨_, rfl, (fun h => by cases h), fun h => by have := h _ (getD_mem es k hkl); omega⟩, hE⟩
  refine aG 7 rfl rfl (bool_eq hb26) (fun _ => r_move_as (v := ves) ((G5 0 rfl).trans ((hF2 0).trans (hF0 0)))) ?_
  refine aG 8 rfl rfl (bool_eq hb26) (fun _ => r_move_as (v := (iv k)) hs6) ?_
  obtain ⟨b27, o28, c29, A32, B33, hv30, hc31, hx34, hd35, ln36, ln37⟩ := hes.ix (i := (k : Int)) (k) oM oM
  refine aG 9 rfl rfl (bool_eq hb26) (fun _ => r_indexAddr (i := (k : Int)) uT22 ty55 hv30 rfl oM oM) ?_
  refine aG 10 rfl rfl (bool_eq hb26) (fun _ => r_fieldAddr uT55 rfl ty3 rfl) ?_
  refine RA.grd 11 rfl kR rfl rfl rfl (bool_eq hb26) rfl dC (Ext.refl _) (fun u hu => r_load (v := (iv ((es.getD (k) default).1))) uT3 ag3 rfl (cell_ext hu (hc31 0 _ rfl))) ?_
  refine aG 12 rfl rfl (bool_eq hb26) (fun _ => r_move_as (v := (iv n)) ((G5 1 rfl).trans ((hF2 1).trans (hF0 1)))) ?_
  refine aG 13 rfl rfl (bool_eq hb26) (fun _ => r_geq (k := .i64) (a := (es.getD (k) default).1) (b := (n : Int)) rfl rfl) ?_
  refine ra 14 rfl (fun _ => r_pick_f (v := (bd ((n : Int) ≤ ((es.getD (k) default).1)))) (bool_eq hb26) rfl) ?_
  refine aM 15 rfl (v := (bd ((n : Int) ≤ ((es.getD (k) default).1)))) rfl ?_
  rcases bD ((n : Int) ≤ ((es.getD (k) default).1)) with ⟨hb38, hb38p⟩ | ⟨hb38, hb38p⟩
  ·refine aN 16 rfl rfl (.inl (bool_eq hb38)) ?_
   refine aN 17 rfl rfl (.inl (bool_eq hb38)) ?_
   refine aN 18 rfl rfl (.inl (bool_eq hb38)) ?_
   refine aN 19 rfl rfl (.inr rfl) ?_
   refine aN 20 rfl rfl (.inr rfl) ?_
   refine aN 21 rfl rfl (.inr rfl) ?_
   refine aN 22 rfl rfl (.inr rfl) ?_
   refine aN 23 rfl rfl (.inr rfl) ?_
   refine aN 24 rfl rfl (.inr rfl) ?_
   refine aN 25 rfl rfl (.inr rfl) ?_
   refine aN 26 rfl rfl (.inr rfl) ?_
   refine aN 27 rfl rfl (.inr rfl) ?_
   refine aN 28 rfl rfl (.inr rfl) ?_
   refine aN 29 rfl rfl (.inr rfl) ?_
   refine aN 30 rfl rfl (.inr rfl) ?_
   refine aN 31 rfl rfl (.inl (bool_eq hb38)) ?_
   refine ra 32 rfl (fun _ => r_pick_t (v := (.bool true)) (bool_eq hb38) rfl) ?_
   refine aM 33 rfl (v := (.bool true)) rfl ?_
   refine aN 34 rfl rfl (.inl rfl) ?_
   refine aN 35 rfl rfl (.inl rfl) ?_
   refine aN 36 rfl rfl (.inl rfl) ?_
   refine aN 37 rfl rfl (.inl rfl) ?_
   refine aN 38 rfl rfl (.inl rfl) ?_
   refine RA.all [39] kR rfl ?_
   refine RS.gno rfl rfl rfl (.inl rfl) rfl dC (.inr (.inl kR)) ?_ RS.nil
   refine aN 40 rfl rfl (.inl rfl) ?_
   refine ra 41 rfl (fun _ => r_pick_t (v := (.bool true)) rfl rfl) ?_
   refine RA.done kR ?_
   refine wcond_t rfl ?_
   refine wsr (aS (v := (.bool false)) rfl (RL.nil ?_))
   refine wret ?_
   refine ⟨[(.bool false)], ⟨rfl, trivial⟩, ?_⟩
   exact ⟨⟨_, rfl, (fun h => by cases h), fun h => by have := h _ (getD_mem es k hkl); omega⟩, hE⟩
  refine aG 16 rfl rfl (bool_eq hb38) (fun _ => r_move_as (v := (iv k)) hs6) ?_
  refine aG 17 rfl rfl (bool_eq hb38) (fun _ => r_gtr (k := .i64) (a := (k : Int)) (b := 0) rfl rfl) ?_
  refine aG 18 rfl rfl (bool_eq hb38) (fun _ => r_move_as (v := (bd (0 < (k : Int)))) rfl) ?_
  rcases bD (0 < (k : Int)) with ⟨hb39, hb39p⟩ | ⟨hb39, hb39p⟩
  ·refine aG 19 rfl rfl (bool_eq hb39) (fun _ => r_move_as (v := ves) ((G5 0 rfl).trans ((hF2 0).trans (hF0 0)))) ?_
   refine aG 20 rfl rfl (bool_eq hb39) (fun _ => r_move_as (v := (iv k)) hs6) ?_
   obtain ⟨b40, o41, c42, A45, B46, hv43, hc44, hx47, hd48, ln49, ln50⟩ := hes.ix (i := (k : Int)) (k) oM oM
   refine aG 21 rfl rfl (bool_eq hb39) (fun _ => r_indexAddr (i := (k : Int)) uT22 ty55 hv43 rfl oM oM) ?_
   refine aG 22 rfl rfl (bool_eq hb39) (fun _ => r_fieldAddr uT55 rfl ty3 rfl) ?_
   refine RA.grd 23 rfl kR rfl rfl rfl (bool_eq hb39) rfl dC (Ext.refl _) (fun u hu => r_load (v := (iv ((es.getD (k) default).1))) uT3 ag3 rfl (cell_ext hu (hc44 0 _ rfl))) ?_
   refine aG 24 rfl rfl (bool_eq hb39) (fun _ => r_move_as (v := ves) ((G5 0 rfl).trans ((hF2 0).trans (hF0 0)))) ?_
   refine aG 25 rfl rfl (bool_eq hb39) (fun _ => r_move_as (v := (iv k)) hs6) ?_
   refine aG 26 rfl rfl (bool_eq hb39) (fun _ => r_sub (k := .i64) (a := (k : Int)) (b := 1) (c := (k : Int) - 1) rfl rfl (wi64 oM)) ?_
   obtain ⟨b51, o52, c53, A56, B57, hv54, hc55, hx58, hd59, ln60, ln61⟩ := hes.ix (i := (k : Int) - 1) (k - 1) oM oM
   refine aG 27 rfl rfl (bool_eq hb39) (fun _ => r_indexAddr (i := (k : Int) - 1) uT22 ty55 hv54 rfl oM oM) ?_
   refine aG 28 rfl rfl (bool_eq hb39) (fun _ => r_fieldAddr uT55 rfl ty3 rfl) ?_
   refine RA.grd 29 rfl kR rfl rfl rfl (bool_eq hb39) rfl dC (Ext.refl _) (fun u hu => r_load (v := (iv ((es.getD (k - 1) default).1))) uT3 ag3 rfl (cell_ext hu (hc55 0 _ rfl))) ?_
   refine aG 30 rfl rfl (bool_eq hb39) (fun _ => r_leq (k := .i64) (a := (es.getD (k) default).1) (b := (es.getD (k - 1) default).1) rfl rfl) ?_
   refine aG 31 rfl rfl (bool_eq hb38) (fun _ => r_pick_t (v := (bd (((es.getD (k) default).1) ≤ ((es.getD (k - 1) default).1)))) (bool_eq hb39) rfl) ?_
   refine ra 32 rfl (fun _ => r_pick_f (v := (bd (((es.getD (k) default).1) ≤ ((es.getD (k - 1) default).1)))) (bool_eq hb38) rfl) ?_
   refine aM 33 rfl (v := (bd (((es.getD (k) default).1) ≤ ((es.getD (k - 1) default).1)))) rfl ?_
   rcases bD (((es.getD (k) default).1) ≤ ((es.getD (k - 1) default).1)) with ⟨hb62, hb62p⟩ | ⟨hb62, hb62p⟩
   ·exact absurd hasc (asc_no oM hkl hb62p)
   refine aG 34 rfl rfl (bool_eq hb62) (fun _ => r_move_as (v := ves) ((G5 0 rfl).trans ((hF2 0).trans (hF0 0)))) ?_
   refine aG 35 rfl rfl (bool_eq hb62) (fun _ => r_move_as (v := (iv k)) hs6) ?_
   obtain ⟨b63, o64, c65, A68, B69, hv66, hc67, hx70, hd71, ln72, ln73⟩ := hes.ix (i := (k : Int)) (k) oM oM
   refine aG 36 rfl rfl (bool_eq hb62) (fun _ => r_indexAddr (i := (k : Int)) uT22 ty55 hv66 rfl oM oM) ?_
   refine aG 37 rfl rfl (bool_eq hb62) (fun _ => r_fieldAddr uT55 rfl ty44 rfl) ?_
   refine RA.grd 38 rfl kR rfl rfl rfl (bool_eq hb62) rfl dC (Ext.refl _) (fun u hu => r_loada (cs := [(bd ((es.getD (k) default).2.num < 0)), (sv A68), (sv B69)]) uT44 ag44 ty44 rfl (fun j v hj => cell_ext hu ((cdrop hc67 1) j v hj))) ?_
   refine RA.all [39] kR rfl ?_
   refine RS.gcall rfl rfl rfl (bool_eq hb62) rfl dC (r_call (vl := [(.agg #[(bd ((es.getD (k) default).2.num < 0)), (sv A68), (sv B69)])]) ent54 rfl) (r03_sign hx70 (digs_lm _) oS hd71 (digs_lm _) oS (ratOf_canon _)) ?_ RS.nil
   rintro _ w74 ⟨rfl, he75⟩
   refine rm he75 ?_
   replace hE := hE.nx he75
   refine aG 40 rfl rfl (bool_eq hb62) (fun _ => r_eql (k := .i64) (a := Int.sign ((es.getD (k) default).2).num) (b := 0) rfl rfl) ?_
   refine ra 41 rfl (fun _ => r_pick_f (v := (bd ((Int.sign ((es.getD (k) default).2).num) = 0))) (bool_eq hb62) rfl) ?_
   refine RA.done kR ?_
   refine wcD (p := (Int.sign ((es.getD (k) default).2).num) = 0) rfl (fun hb76 hb76p => ?_) (fun hb76 hb76p => ?_)
   ·exact absurd ((sign_eq _).1 hb76p) (hnz _ (getD_mem _ _ hkl))
   refine wskip ?_
   refine wregion (mV hs6 (rV (r_add (k := .i64) (a := (k : Int)) (b := 1) (c := (k : Int) + 1) rfl rfl (wi64 oM)) (aS (v := (iv ((k : Int) + 1))) rfl (RL.nil ?_))))
   replace hes := hes.tr (Sm.ext he75)
   refine ⟨(k + 1), ⟨?_, ?_, ?_, ?_, ?_, ?_⟩, ?_⟩
   · exact (by repeat (first | exact G5 | refine Off.st ?_ dC _))
   · first | rfl | exact int_eq oM | exact bool_eq (by simp)
   · omega
   · rw [take_snoc es k hkl]; intro e he; rcases List.mem_append.1 he with h | h; exact hin e h; rw [List.mem_singleton.1 h]; exact ⟨by omega, by omega⟩
   · exact hes
   · exact hE
   (try dsimp only)
   omega
  refine aN 19 rfl rfl (.inl (bool_eq hb39)) ?_
  refine aN 20 rfl rfl (.inl (bool_eq hb39)) ?_
  refine aN 21 rfl rfl (.inl (bool_eq hb39)) ?_
  refine aN 22 rfl rfl (.inl (bool_eq hb39)) ?_
  refine aN 23 rfl rfl (.inl (bool_eq hb39)) ?_
  refine aN 24 rfl rfl (.inl (bool_eq hb39)) ?_
  refine aN 25 rfl rfl (.inl (bool_eq hb39)) ?_
  refine aN 26 rfl rfl (.inl (bool_eq hb39)) ?_
  refine aN 27 rfl rfl (.inl (bool_eq hb39)) ?_
  refine aN 28 rfl rfl (.inl (bool_eq hb39)) ?_
  refine aN 29 rfl rfl (.inl (bool_eq hb39)) ?_
  refine aN 30 rfl rfl (.inl (bool_eq hb39)) ?_
  refine aG 31 rfl rfl (bool_eq hb38) (fun _ => r_pick_f (v := (.bool false)) (bool_eq hb39) rfl) ?_
  refine ra 32 rfl (fun _ => r_pick_f (v := (.bool false)) (bool_eq hb38) rfl) ?_
  refine aM 33 rfl (v := (.bool false)) rfl ?_
  refine aG 34 rfl rfl rfl (fun _ => r_move_as (v := ves) ((G5 0 rfl).trans ((hF2 0).trans (hF0 0)))) ?_
  refine aG 35 rfl rfl rfl (fun _ => r_move_as (v := (iv k)) hs6) ?_
  obtain ⟨b77, o78, c79, A82, B83, hv80, hc81, hx84, hd85, ln86, ln87⟩ := hes.ix (i := (k : Int)) (k) oM oM
  refine aG 36 rfl rfl rfl (fun _ => r_indexAddr (i := (k : Int)) uT22 ty55 hv80 rfl oM oM) ?_
  refine aG 37 rfl rfl rfl (fun _ => r_fieldAddr uT55 rfl ty44 rfl) ?_
  refine RA.grd 38 rfl kR rfl rfl rfl rfl rfl dC (Ext.refl _) (fun u hu => r_loada (cs := [(bd ((es.getD (k) default).2.num < 0)), (sv A82), (sv B83)]) uT44 ag44 ty44 rfl (fun j v hj => cell_ext hu ((cdrop hc81 1) j v hj))) ?_
  refine RA.all [39] kR rfl ?_
  refine RS.gcall rfl rfl rfl rfl rfl dC (r_call (vl := [(.agg #[(bd ((es.getD (k) default).2.num < 0)), (sv A82), (sv B83)])]) ent54 rfl) (r03_sign hx84 (digs_lm _) oS hd85 (digs_lm _) oS (ratOf_canon _)) ?_ RS.nil
  rintro _ w88 ⟨rfl, he89⟩
  refine rm he89 ?_
  replace hE := hE.nx he89
  refine aG 40 rfl rfl rfl (fun _ => r_eql (k := .i64) (a := Int.sign ((es.getD (k) default).2).num) (b := 0) rfl rfl) ?_
  refine ra 41 rfl (fun _ => r_pick_f (v := (bd ((Int.sign ((es.getD (k) default).2).num) = 0))) rfl rfl) ?_
  refine RA.done kR ?_
  refine wcD (p := (Int.sign ((es.getD (k) default).2).num) = 0) rfl (fun hb90 hb90p => ?_) (fun hb90 hb90p => ?_)
  ·exact absurd ((sign_eq _).1 hb90p) (hnz _ (getD_mem _ _ hkl))
  refine wskip ?_
  refine wregion (mV hs6 (rV (r_add (k := .i64) (a := (k : Int)) (b := 1) (c := (k : Int) + 1) rfl rfl (wi64 oM)) (aS (v := (iv ((k : Int) + 1))) rfl (RL.nil ?_))))
  replace hes := hes.tr (Sm.ext he89)
  refine ⟨(k + 1), ⟨?_, ?_, ?_, ?_, ?_, ?_⟩, ?_⟩
  · exact (by repeat (first | exact G5 | refine Off.st ?_ dC _))
  · first | rfl | exact int_eq oM | exact bool_eq (by simp)
  · omega
  · rw [take_snoc es k hkl]; intro e he; rcases List.mem_append.1 he with h | h; exact hin e h; rw [List.mem_singleton.1 h]; exact ⟨by omega, by omega⟩
  · exact hes
  · exact hE
  (try dsimp only)
  omega
 refine wexit ?_
 refine wsr (aS (v := (.bool true)) rfl (RL.nil ?_))
 refine wret ?_
 refine ⟨[(.bool true)], ⟨rfl, trivial⟩, ?_⟩
 rw [List.take_of_length_le oM] at hin
 exact ⟨⟨_, rfl, (fun _ => hin), fun _ => rfl⟩, hE⟩
end Go.Proofs.YtelbjmhhbeijkaaGreat
namespace Go.Proofs.YtelbjmhhbeijkaaGreat
open Go.Vg Go.RowKit _root_.Go.Proofs.Tryz
set_option linter.unusedVariables false
open Go.Vm
end Go.Proofs.YtelbjmhhbeijkaaGreat
namespace Go.Proofs.YtelbjmhhbeijkaaGreat
open Go.Vg Go.RowKit _root_.Go.Proofs.Tryz
set_option linter.unusedVariables false
open Go.Vm
def fdK (qs : List Rat) : Nat → List Ent'
  | 0 => []
  | k + 1 => if qs.getD k default = 0 then fdK qs k else fdK qs k ++ [((k : Int), qs.getD k default)]
theorem fdK_len (qs : List Rat) : ∀ k, (fdK qs k).length ≤ k
  | 0 => Nat.le_refl _
  | k + 1 => by
    have := fdK_len qs k
    unfold fdK
    split
    · omega
    rw [List.length_append, List.length_singleton]; omega
theorem fdK_lt (qs : List Rat) : ∀ k, ∀ e ∈ fdK qs k, 0 ≤ e.1 ∧ e.1 < (k : Int)
  | 0, _, h => by cases h
  | k + 1, e, h => by
    unfold fdK at h
    split at h
    · have := fdK_lt qs k e h; omega
    rcases List.mem_append.1 h with h | h
    · have := fdK_lt qs k e h; omega
    rw [List.mem_singleton.1 h]; exact ⟨by omega, by omega⟩
set_option maxHeartbeats 4000000 in
theorem v_fromdense {w : World} {Dl : Nat → TypeId → Prop} {L : Nat} {vl : Value} {qs : List Rat} (hl0 : Rs L Dl w vl qs) (hL : L ≤ 4294967296) (hnl : qs.length ≤ 1048576) :
    Calls Tryz.prog 15 #[vl] w fun e w' => ∃ v, e = .returned v ∧ Oe (L + 1) (fun b T => w.heap.size ≤ b ∧ T = 89) w' w.heap.size 55 v (fdK qs qs.length) ∧ Ext w w' := by
 have hE : Below w.heap.size w w := Below.refl _ _
 have hl := hl0.old
 clear hl0
 have hlo : w.heap.size ≤ w.heap.size := Nat.le_refl _
 refine calls_of (n := 25) (rs := [.tmp 2]) func15 rfl rfl rfl bL ?_
 refine wset fun F0 hF0 => ?_
 refine wsr (aS (v := (.slice none (0) (0))) rfl (RL.nil (wsr (aS (v := (.slice none (0) (0))) rfl (RL.nil (wseq (wsr (mV (v := vl) (hF0 0) ?_))))))))
 obtain ⟨A1, c2, hv3, hc4, hc5⟩ := hl.len
 refine rV (r_len uT37 hv3) (mV (v := (iv 0)) rfl (RL.nil ?_))
 refine wblock ?_
 refine wset fun F6 hF7 => ?_
 refine wloop (σ := Nat × Value) (fun (s : Nat × Value) fl wl => match s with | (k, vr) => Off (rg 3 3 (rg 8 16 [])) F6 fl ∧ fl 8 = (iv k) ∧ fl 3 = vr ∧ (k ≤ qs.length) ∧ (Oe (L + 1) (fun b T => w.heap.size ≤ b ∧ T = 89) wl w.heap.size 55 vr (fdK qs k)) ∧ (Rs L (fun b T => Dl b T ∧ b < w.heap.size) wl vl qs) ∧ (Below w.heap.size w wl)) (fun (s : Nat × Value) => match s with | (k, vr) => qs.length - k) (0, (.slice none 0 0)) ?_ ?_
 ·exact ⟨Off.refl _ _, (hF7 8).trans (rfl), (hF7 3).trans (rfl), Nat.zero_le _, Oe.nil, hl, hE⟩
 clear hl hE
 rintro ⟨k, vr⟩ f8 w9 ⟨G10, hs11, hs12, hk, hR, hl, hE⟩
 refine wsr (rV (r_lss (k := .i64) (a := (k : Int)) (b := ((qs.length : Nat) : Int)) hs11 ((G10 7 rfl).trans (hF7 7))) (RL.nil (wseq ?_)))
 refine wcD (p := (k : Int) < ((qs.length : Nat) : Int)) rfl (fun hb13 hb13p => ?_) (fun hb13 hb13p => ?_)
 ·refine wskip ?_
  refine wseq ?_
  refine wblock ?_
  refine wseq ?_
  have hfl := fdK_len qs k
  refine wregion (mV hs11 ?_)
  obtain ⟨b14, o15, c16, s19, vn20, vd21, x22, d23, hv17, hc18, hx24, lm25, ln26, hd27, lm28, ln29, eq30⟩ := hl.ix (i := (k : Int)) (k) oM oM
  refine rV (r_indexAddr (i := (k : Int)) uT37 ty44 ((((G10 6 rfl).trans (hF7 6))).trans hv17) hs11 oM oM) (rV (r_loada (cs := [(.bool s19), vn20, vd21]) uT44 ag44 ty44 rfl hc18) ?_)
  refine rU (h_alloc (cs := [(.bool false), (.slice none 0 0), (.slice none 0 0)]) ty44 rfl) ?_
  rintro _ w31 ⟨b32, rfl, hs35, hb34, he33⟩
  have ge_b32 := hE.ge hs35
  have on_vr_b32 : vr.ownBlock ≠ some b32 := fun h => absurd (hR.lt _ h) (by rw [hs35]; exact Nat.lt_irrefl _)
  refine aS (v := (iv k)) rfl ?_
  refine RL.runs rfl rfl (h_stA (cs := [(.bool s19), vn20, vd21]) (o := 0) ty44 rfl rfl rfl rfl (one_cons rfl (one_cons hx24.one (one_cons hd27.one one_nil))) hb34 bL) ?_
  rintro w36 ⟨hn37, hx38, hz39⟩
  have nb_hx38 := (Nb.of hb34 (nu_cons rfl (nu_cons rfl (nu_cons rfl nu_nil))))
  replace hb34 : Bk w36 b32 44 [(.bool s19), vn20, vd21] := hn37
  refine RL.nil (wsr ?_)
  have hc40 := hb34.cells (o := 0) (cs := [(.bool s19), vn20, vd21]) rfl
  refine rV (r_loada (o := 0) (cs := [(.bool s19), vn20, vd21]) uT44 ag44 ty44 rfl hc40) ?_
  replace hx24 := (hx24.tr (Sm.ext he33)).apn hx38 nb_hx38
  replace hd27 := (hd27.tr (Sm.ext he33)).apn hx38 nb_hx38
  refine RL.call rfl rfl dC (r_call (vl := [(.agg #[(.bool s19), vn20, vd21])]) ent37 rfl) (q_sign hx24 lm25 oS hd27 lm28 oS (show ratOf s19 (val x22) (val d23) = qs.getD (k) default from eq30)) ?_
  rintro _ w41 ⟨rfl, he42⟩
  replace hE := ((hE.nx he33).nb hx38 ge_b32).nx he42
  refine rV (r_neq (k := .i64) (a := Int.sign (qs.getD (k) default).num) (b := 0) rfl rfl) (RL.nil ?_)
  refine wcD (p := (Int.sign (qs.getD (k) default).num) ≠ 0) rfl (fun hb43 hb43p => ?_) (fun hb43 hb43p => ?_)
  ·have hnz : ¬ qs.getD (k) default = 0 := fun h => hb43p ((sign_eq _).2 h)
   refine wregion (mV hs12 (mV (v := (iv k)) rfl ?_))
   replace hb34 := hb34.ext he42
   have hc44 := hb34.cells (o := 0) (cs := [(.bool s19), vn20, vd21]) rfl
   refine rV (r_loada (o := 0) (cs := [(.bool s19), vn20, vd21]) uT44 ag44 ty44 rfl hc44) ?_
   replace hx24 := hx24.tr (Sm.ext he42)
   replace hd27 := hd27.tr (Sm.ext he42)
   refine RL.call rfl rfl dC (r_call (vl := [(.agg #[(.bool s19), vn20, vd21])]) ent38 rfl) (q_norm hx24 lm25 oS hd27 lm28 oS (show ratOf s19 (val x22) (val d23) = qs.getD (k) default from eq30)) ?_
   rintro _ w45 ⟨⟨vn47, vd49, rfl, hn48, hd50, hl51, hl52⟩, he46⟩
   have hlv53 := den_one (qs.getD (k) default)
   replace hn48 := hn48.fr hE
   replace hd50 := hd50.fr hE
   replace hE := hE.nx he46
   refine rV (r_build (vl := [(0, (iv k)), (1, (.agg #[(bd ((qs.getD (k) default).num < 0)), vn47, vd49]))]) (cs := [(iv k), (bd ((qs.getD (k) default).num < 0)), vn47, vd49]) uT55 ty55 rfl (pl55 uT55) rfl) ?_
   refine rU (h_lit (vl := [(0, (.agg #[(iv k), (bd ((qs.getD (k) default).num < 0)), vn47, vd49]))]) (cs := [(iv k), (bd ((qs.getD (k) default).num < 0)), vn47, vd49]) uT22 ty55 rfl dC (by first | (simp [Instr.fill, Value.cells]; done) | rfl | kernel_rfl)) ?_
   rintro _ w54 ⟨b55, rfl, hs58, hb57, he56⟩
   replace hb34 := hb34.ext he46
   have lt_b32_b55 := Nat.lt_of_lt_of_eq hb34.lt hs58.symm
   have ge_b55 := hE.ge hs58
   replace hR := ((hR.ext he33).exo hx38 on_vr_b32 nb_hx38).ext (Ext.trans he42 he46)
   replace hE := hE.nx he56
   replace hn48 := hn48.tr (Sm.ext he56)
   replace hd50 := hd50.tr (Sm.ext he56)
   have hrk : Rk (L + 1) (fun b T => w.heap.size ≤ b ∧ T = 89) w54 (decide ((qs.getD (k) default).num < 0), vn47, vd49) (qs.getD (k) default) := ⟨rfl, hn48, hd50, by omega, by omega⟩
   replace hR := hR.ext he56
   refine rU (h_appendE (v1 := vr) (v2 := (.slice (some ⟨b55, 0, none⟩) (1) (1))) (q := qs.getD (k) default) uT22 ty55 rfl rfl rfl hR (hb57.sc (D := fun _ _ => True) trivial rfl dC) hrk (fun _ h => absurd h.2 dC) (by simp only [maxLen]; omega) oM hE.size) ?_
   rintro v60 w59 ⟨ho61, hg62⟩
   replace hE := hR.gbl hg62 hE hlo hE.size
   refine aS (v := v60) rfl (RL.nil (wregion (rV (r_add (k := .i64) (a := (k : Int)) (b := 1) (c := (k : Int) + 1) hs11 rfl (wi64 oM)) (mV (v := (iv ((k : Int) + 1))) rfl (RL.nil ?_)))))
   have hm63 := Ext.trans he42 (Ext.trans he46 he56)
   replace hl := (((hl.tr (Sm.ext he33)).tr (Sm.exc hx38 (fun _ _ _ _ hd => absurd hd.2 (Nat.not_lt_of_le ge_b32)))).tr (Sm.ext hm63)).tr (hR.gsm hg62 (fun b hb hd => absurd hd.2 (Nat.not_lt_of_le (Nat.le_trans hlo hb))))
   refine ⟨(k + 1, v60), ⟨?_, ?_, ?_, ?_, ?_, ?_, ?_⟩, ?_⟩
   · exact (by repeat (first | exact G10 | refine Off.st ?_ dC _))
   · first | rfl | exact int_eq oM | exact bool_eq (by simp)
   · first | rfl | exact int_eq oM | exact bool_eq (by simp)
   · omega
   · rw [fdK, if_neg hnz]; exact ho61
   · exact hl
   · exact hE
   (try dsimp only)
   omega
  have hz : qs.getD (k) default = 0 := (sign_eq _).1 (by simpa using hb43p)
  refine wskip ?_
  refine wregion (rV (r_add (k := .i64) (a := (k : Int)) (b := 1) (c := (k : Int) + 1) hs11 rfl (wi64 oM)) (mV (v := (iv ((k : Int) + 1))) rfl (RL.nil ?_)))
  replace hR := ((hR.ext he33).exo hx38 on_vr_b32 nb_hx38).ext he42
  replace hl := ((hl.tr (Sm.ext he33)).tr (Sm.exc hx38 (fun _ _ _ _ hd => absurd hd.2 (Nat.not_lt_of_le ge_b32)))).tr (Sm.ext he42)
  refine ⟨(k + 1, vr), ⟨?_, ?_, ?_, ?_, ?_, ?_, ?_⟩, ?_⟩
  · exact (by repeat (first | exact G10 | refine Off.st ?_ dC _))
  · first | rfl | exact int_eq oM | exact bool_eq (by simp)
  · refine (hs12).trans ?_
    first | rfl | exact int_eq oM | exact bool_eq (by simp)
  · omega
  · rw [fdK, if_pos hz]; exact hR
  · exact hl
  · exact hE
  (try dsimp only)
  omega
 refine wexit ?_
 refine wsr (mV hs12 (aS (v := vr) rfl (RL.nil ?_)))
 refine wret ?_
 refine ⟨[vr], ⟨rfl, trivial⟩, ?_⟩
 have hR2 := hR
 rw [show k = qs.length by omega] at hR2
 exact ⟨hR2, hE⟩
end Go.Proofs.YtelbjmhhbeijkaaGreat
namespace Go.Proofs.YtelbjmhhbeijkaaGreat
open Go.Vg Go.RowKit _root_.Go.Proofs.Tryz
set_option linter.unusedVariables false
open Go.Vm
end Go.Proofs.YtelbjmhhbeijkaaGreat
namespace Go.Proofs.YtelbjmhhbeijkaaGreat
open Go.Vg Go.RowKit _root_.Go.Proofs.Tryz
set_option linter.unusedVariables false
open Go.Vm
theorem fdK_asc (qs : List Rat) : ∀ k, Asc (fdK qs k)
  | 0 => List.Pairwise.nil
  | k + 1 => by
    unfold fdK
    split
    · exact fdK_asc qs k
    refine List.pairwise_append.2 ⟨fdK_asc qs k, List.pairwise_singleton _ _, fun a ha b hb => ?_⟩
    rw [List.mem_singleton.1 hb]
    exact (fdK_lt qs k a ha).2
theorem fdK_nz (qs : List Rat) : ∀ k, NonZ (fdK qs k)
  | 0 => fun _ h => by cases h
  | k + 1 => by
    unfold fdK
    split
    · exact fdK_nz qs k
    rename_i h
    intro e he
    rcases List.mem_append.1 he with g | g
    · exact fdK_nz qs k e g
    rw [List.mem_singleton.1 g]; exact h
theorem fdK_get (qs : List Rat) (i : Int) : ∀ k, get (fdK qs k) i = if 0 ≤ i ∧ i < (k : Int) then qs.getD i.toNat default else 0
  | 0 => by rw [if_neg oM]; rfl
  | k + 1 => by
    have ih := fdK_get qs i k
    have e1 : get [((k : Int), qs.getD k default)] i = if (k : Int) = i then qs.getD k default else 0 := Rat.add_zero _
    by_cases hi : (k : Int) = i
    · subst hi
      rw [if_neg oM] at ih
      rw [if_pos oM, Int.toNat_natCast]
      unfold fdK
      split
      · rename_i h; rw [ih, h]
      rw [get_append, ih, e1, if_pos rfl, Rat.zero_add]
    have hc : (0 ≤ i ∧ i < ((k + 1 : Nat) : Int)) ↔ (0 ≤ i ∧ i < (k : Int)) := by omega
    rw [if_neg hi] at e1
    have e2 : get (fdK qs (k + 1)) i = get (fdK qs k) i := by
      rw [fdK]
      split
      · rfl
      rw [get_append, e1, Rat.add_zero]
    rw [e2, ih]
    simp only [hc]
end Go.Proofs.YtelbjmhhbeijkaaGreat
namespace Go.Proofs.YtelbjmhhbeijkaaGreat
open Go.Vg Go.RowKit _root_.Go.Proofs.Tryz
set_option linter.unusedVariables false
open Go.Vm
end Go.Proofs.YtelbjmhhbeijkaaGreat
namespace Go.Proofs.YtelbjmhhbeijkaaGreat
open Go.Vg Go.RowKit _root_.Go.Proofs.Tryz
set_option linter.unusedVariables false
open Go.Vm
end Go.Proofs.YtelbjmhhbeijkaaGreat
namespace Go.Proofs.YtelbjmhhbeijkaaGreat
open Go.Vg Go.RowKit _root_.Go.Proofs.Tryz
set_option linter.unusedVariables false
open Go.Vm
theorem cov_of {t : List Ent'} {n : Nat} (ht : ∀ e ∈ t, 0 ≤ e.1 ∧ e.1 < (n : Int)) {i : Int} (hi : get t i ≠ 0) : 0 ≤ i ∧ i < (n : Int) := by
  rcases Classical.em (∃ x ∈ t, x.1 = i) with ⟨x, hx, h⟩ | h
  · rw [← h]; exact ht x hx
  exact absurd (get_none (a := t) (i := i) (fun x hx hh => h ⟨x, hx, hh⟩)) hi
end Go.Proofs.YtelbjmhhbeijkaaGreat
namespace Go.Proofs.YtelbjmhhbeijkaaGreat
open Go.Vg Go.RowKit _root_.Go.Proofs.Tryz
set_option linter.unusedVariables false
open Go.Vm
end Go.Proofs.YtelbjmhhbeijkaaGreat
namespace Go.Proofs.YtelbjmhhbeijkaaGreat
open Go.Vg Go.RowKit _root_.Go.Proofs.Tryz
set_option linter.unusedVariables false
open Go.Vm
theorem Ec.nil {L : Nat} {D : Nat → TypeId → Prop} {w : World} : Ec L D w (.slice none 0 0) [] := ⟨[], Ss.nil dC, Fe.nil⟩
end Go.Proofs.YtelbjmhhbeijkaaGreat
namespace Go.Vg
open Go Go.RowKit Go.Vm
def Rc (L : Nat) (D : Nat → TypeId → Prop) (w : World) (v : Value) (qs : List Rat) : Prop :=
  ∃ cs : List RC, Ss ratC 3 D w v cs ∧ cs.length = qs.length ∧ ∀ k, k < qs.length → Rk L D w (cs.getD k default) (qs.getD k default)
section
variable {L L' : Nat} {D D' : Nat → TypeId → Prop} {w w' : World} {v : Value} {qs : List Rat}
theorem Rc.tr (h : Rc L D w v qs) (hs : Sm D w w') : Rc L D w' v qs := by
  obtain ⟨cs, h1, h2, h3⟩ := h
  exact ⟨cs, h1.tr hs, h2, fun k hk => (h3 k hk).tr hs⟩
theorem Rc.mono (h : Rc L D w v qs) (hD : ∀ b T, D b T → D' b T) : Rc L D' w v qs := by
  obtain ⟨cs, h1, h2, h3⟩ := h
  exact ⟨cs, h1.mono hD, h2, fun k hk => (h3 k hk).mono hD⟩
theorem Rc.wide (h : Rc L D w v qs) (hL : L ≤ L') : Rc L' D w v qs := by
  obtain ⟨cs, h1, h2, h3⟩ := h
  exact ⟨cs, h1, h2, fun k hk => (h3 k hk).wide hL⟩
theorem Rc.nil : Rc L D w (.slice none 0 0) [] := ⟨[], Ss.nil dC, rfl, fun k hk => absurd hk (Nat.not_lt_zero _)⟩
theorem Rc.rs (h : Rc L D w v qs) : Rs L D w v qs := by
  obtain ⟨cs, h1, h2, h3⟩ := h
  exact ⟨cs, h1, h2, fun k hk => (h3 k hk).rz⟩
theorem Rc.len (h : Rc L D w v qs) : ∃ A c, v = .slice A qs.length c ∧ qs.length ≤ c ∧ c ≤ 9223372036854775807 := h.rs.len
theorem Rc.one (h : Rc L D w v qs) : v.oneCell' = true := h.rs.one
theorem Rc.ix (h : Rc L D w v qs) {i : Int} (k : Nat) (hi : i = (k : Int)) (hk : k < qs.length) :
    ∃ bb o cap vn vd, v = .slice (some ⟨bb, o, none⟩) qs.length cap ∧ (∀ j u, [Value.bool (decide ((qs.getD k default).num < 0)), vn, vd][j]? = some u → w.cell? ⟨bb, o + i.toNat * 3 + j, none⟩ = some u) ∧
      Sg (gN .u32) D w vn (digs (qs.getD k default).num.natAbs) ∧ Sg (gN .u32) D w vd (digs (qs.getD k default).den) ∧ (digs (qs.getD k default).num.natAbs).length ≤ L ∧ (digs (qs.getD k default).den).length ≤ L := by
  obtain ⟨cs, h1, h2, h3⟩ := h
  obtain ⟨bb, o, cap, hv, hc⟩ := h1.ix k hi oM
  obtain ⟨g0, g⟩ := h3 k hk
  refine ⟨bb, o, cap, _, _, by rw [hv, h2], ?_, g⟩
  rw [← g0]
  exact hc
end
def Ak (L : Nat) (D : Nat → TypeId → Prop) (w : World) (b : Nat) (T : TypeId) (qs : List Rat) (n : Nat) : Prop :=
  ∃ cs : List RC, Aa ratC 3 w b T cs n ∧ qs.length ≤ n ∧ (∀ k, k < qs.length → Rk L D w (cs.getD k default) (qs.getD k default)) ∧ ∀ k, qs.length ≤ k → k < n → cs.getD k default = (false, .slice none 0 0, .slice none 0 0)
section
variable {L L' : Nat} {D D' : Nat → TypeId → Prop} {w w' : World} {b n : Nat} {T : TypeId} {qs : List Rat}
theorem Ak.ext (h : Ak L D w b T qs n) (e : Ext w w') : Ak L D w' b T qs n := by
  obtain ⟨cs, h1, h2, h3, h4⟩ := h
  exact ⟨cs, h1.ext e, h2, fun k hk => (h3 k hk).tr (Sm.ext e), h4⟩
theorem Ak.apn {b0 : Nat} (h : Ak L D w b T qs n) (e : Exc b0 w w') (hne : b ≠ b0) (hb : Nb w b0) : Ak L D w' b T qs n := by
  obtain ⟨cs, h1, h2, h3, h4⟩ := h
  exact ⟨cs, h1.exc e hne, h2, fun k hk => (h3 k hk).apn e hb, h4⟩
theorem Ak.lt (h : Ak L D w b T qs n) : b < w.heap.size := by
  obtain ⟨cs, h1, _⟩ := h
  exact h1.lt
theorem Ak.nb (h : Ak L D w b T qs n) : Nb w b := by
  obtain ⟨cs, h1, h2, h3, h4⟩ := h
  refine ⟨T, _, h1.2.1, fun u hu => ?_⟩
  obtain ⟨l, hl, hul⟩ := List.mem_flatten.1 hu
  obtain ⟨c, hc, rfl⟩ := List.mem_map.1 hl
  obtain ⟨k, hk, rfl⟩ := List.getElem_of_mem hc
  have hkn : k < n := by rw [← h1.2.2]; exact hk
  have e1 : cs.getD k default = cs[k] := by simp [hk]
  simp only [ratC, List.mem_cons, List.not_mem_nil, or_false] at hul
  by_cases hq : k < qs.length
  · have hz := h3 k hq
    rw [e1] at hz
    rcases hul with rfl | rfl | rfl
    · rfl
    · exact hz.2.1.nu
    exact hz.2.2.1.nu
  have hz := h4 k oM hkn
  rw [e1] at hz
  rcases hul with rfl | rfl | rfl
  · rfl
  · rw [hz]; rfl
  rw [hz]; rfl
theorem Ak.made (hb : Bk w b T (List.replicate n [.bool false, .slice none 0 0, .slice none 0 0]).flatten) : Ak L D w b T [] n := by
  refine ⟨List.replicate n (false, .slice none 0 0, .slice none 0 0), Aa.made (fun _ => rfl) hb rfl, Nat.zero_le _, fun k hk => absurd hk (Nat.not_lt_zero _), fun k _ hk => ?_⟩
  simp [hk]
theorem Ak.rc (h : Ak L D w b T qs n) (hl : qs.length = n) (hd : D' b T) (hD : ∀ b T, D b T → D' b T) (hm : n ≤ 9223372036854775807) : Rc L D' w (.slice (some ⟨b, 0, none⟩) n n) qs := by
  obtain ⟨cs, h1, h2, h3, h4⟩ := h
  exact ⟨cs, h1.ss dC hd hm, by rw [h1.2.2, hl], fun k hk => (h3 k hk).mono hD⟩
end
section
variable {P : Program} {f : Nat → Value} {w : World} {dst : Option Tmp} {ty : TypeId} {pos : String} {aft : Array Edge} {gd : Option (Nat × Bool)} {x y z : Operand} {t e : TypeId}
theorem h_setK {T : TypeId} {L b n bytes : Nat} {D : Nat → TypeId → Prop} {qs : List Rat} {s : Bool} {vn vd : Value} {q : Rat} {i : Int} {zz : Value} (ht : TyI P t 3 bytes zz) (hx : ev f x = .pointer (some ⟨b, 0 + i.toNat * 3, none⟩)) (hy : ev f y = .agg #[.bool s, vn, vd])
    (ha : Ak L D w b T qs n) (hq : Rk L D w (s, vn, vd) q) (hi : i = (qs.length : Int)) (hk : qs.length < n) :
    RunS P f ⟨dst, .store t x y, ty, pos, aft, gd⟩ w fun w' => Ak L D w' b T (qs ++ [q]) n ∧ Exc b w w' := by
  have hnb := ha.nb
  obtain ⟨cs, h1, h2, h3, h3'⟩ := ha
  have hone : ∀ u ∈ ratC (s, vn, vd), u.oneCell' = true := one_cons rfl (one_cons hq.2.1.one (one_cons hq.2.2.1.one one_nil))
  obtain ⟨w', hr, h4, h5⟩ := h_setA (P := P) (f := f) (dst := dst) (ty := ty) (pos := pos) (aft := aft) (gd := gd) (u := (s, vn, vd)) ht hx hy rfl hone h1 qs.length hi hk
  have hlc : qs.length < cs.length := by rw [h1.2.2]; exact hk
  refine ⟨w', hr, ⟨_, h4, by rw [List.length_append, List.length_singleton]; omega, fun j hj => ?_, fun j hj hn => ?_⟩, h5⟩
  · rw [List.length_append, List.length_singleton] at hj
    by_cases e : qs.length = j
    · subst e
      rw [show (cs.set qs.length (s, vn, vd)).getD qs.length default = (s, vn, vd) by simp [hlc], show (qs ++ [q]).getD qs.length default = q by simp]
      exact hq.apn h5 hnb
    have hj' : j < qs.length := by omega
    rw [show (cs.set qs.length (s, vn, vd)).getD j default = cs.getD j default by simp [List.getElem?_set_ne e], show (qs ++ [q]).getD j default = qs.getD j default by simp [List.getElem?_append_left hj']]
    exact (h3 j hj').apn h5 hnb
  rw [List.length_append, List.length_singleton] at hj
  rw [show (cs.set qs.length (s, vn, vd)).getD j default = cs.getD j default by simp [List.getElem?_set_ne (show qs.length ≠ j by omega)]]
  exact h3' j oM hn
end
def Oc (L : Nat) (D : Nat → TypeId → Prop) (w : World) (lo : Nat) (T : TypeId) (v : Value) (qs : List Rat) : Prop :=
  ∃ cs : List RC, Ow w lo T 3 v qs.length (cs.map ratC).flatten ∧ cs.length = qs.length ∧ ∀ k, k < qs.length → Rk L D w (cs.getD k default) (qs.getD k default)
section
variable {L : Nat} {D D' : Nat → TypeId → Prop} {w w' : World} {lo b : Nat} {T T' : TypeId} {v : Value} {qs : List Rat} {l : List Value}
theorem Oc.nil : Oc L D w lo T (.slice none 0 0) [] := ⟨[], Ow.nil lo 3, rfl, fun k hk => absurd hk (Nat.not_lt_zero _)⟩
theorem Oc.ext (h : Oc L D w lo T v qs) (e : Ext w w') : Oc L D w' lo T v qs := by
  obtain ⟨cs, h1, h2, h3⟩ := h
  exact ⟨cs, h1.ext e, h2, fun k hk => (h3 k hk).tr (Sm.ext e)⟩
theorem Oc.exo (h : Oc L D w lo T v qs) (e : Exc b w w') (hne : v.ownBlock ≠ some b) (hb : Nb w b) : Oc L D w' lo T v qs := by
  obtain ⟨cs, h1, h2, h3⟩ := h
  exact ⟨cs, h1.exo e hne, h2, fun k hk => (h3 k hk).apn e hb⟩
theorem Oc.lt (h : Oc L D w lo T v qs) (b : Nat) (hb : v.ownBlock = some b) : b < w.heap.size := by
  obtain ⟨cs, h1, h2, h3⟩ := h
  exact (World.ownsRow.lt h1 b hb).2
theorem Oc.one (h : Oc L D w lo T v qs) : v.oneCell' = true := by
  obtain ⟨cs, h1, h2, h3⟩ := h
  exact h1.one
theorem Oc.rc (h : Oc L D w lo T v qs) (h1 : ∀ b, lo ≤ b → D' b T) (h2 : ∀ b T, D b T → D' b T) : Rc L D' w v qs := by
  obtain ⟨cs, g1, g2, g3⟩ := h
  exact ⟨cs, g1.ss rfl g2.symm dC (fun _ _ => rfl) h1, g2, fun k hk => (g3 k hk).mono h2⟩
theorem Oc.gsm (h : Oc L D w lo T v qs) (hg : w.grownBy w' v.ownBlock) (hD : ∀ b, lo ≤ b → ¬ D' b T) : Sm D' w w' := by
  obtain ⟨cs, h1, h2, h3⟩ := h
  exact h1.sm hg hD
theorem Oc.gbk (h : Oc L D w lo T v qs) (hg : w.grownBy w' v.ownBlock) (hb : Bk w b T' l) (hne : T' ≠ T) : Bk w' b T' l := by
  obtain ⟨cs, h1, h2, h3⟩ := h
  exact h1.bk hg hb (.inr hne)
theorem Oc.gbo (_h : Oc L D w lo T v qs) (hg : w.grownBy w' v.ownBlock) (hb : Bk w b T' l) (hne : v.ownBlock ≠ some b) : Bk w' b T' l :=
  (hg.block b hb.lt (fun he => hne he.symm)).trans hb
theorem Oc.gbl {w0 : World} {B : Nat} (h : Oc L D w lo T v qs) (hg : w.grownBy w' v.ownBlock) (hE : Below B w0 w) (hB : B ≤ lo) (hs : B ≤ w.heap.size) : Below B w0 w' := by
  obtain ⟨cs, h1, h2, h3⟩ := h
  exact h1.below hg hE hB hs
end
section
variable {P : Program} {f : Nat → Value} {w : World} {dst : Option Tmp} {ty : TypeId} {pos : String} {aft : Array Edge} {g : Option (Nat × Bool)} {x y z : Operand} {t e : TypeId} {D D2 : Nat → TypeId → Prop}
theorem h_appendC {L lo bytes : Nat} {zz v1 v2 : Value} {qs : List Rat} {c : RC} {q : Rat} (hu : P.underlying t = some (.slice e)) (ht : TyI P e 3 bytes zz) (hz : zz.cells.size = 3) (hx : ev f x = v1) (hy : ev f y = v2)
    (ho : Oc L D w lo e v1 qs) (hs : Sc D2 w 3 v2 1 (ratC c)) (hq : Rk L D w c q) (hD : ∀ b, ¬ D b e) (h63 : qs.length + 1 ≤ maxLen) (hby : (qs.length + 1) * bytes ≤ 140737488355328) (hlo : lo ≤ w.heap.size) :
    Run P f ⟨dst, .call ⟨.builtin .append, #[x, y], #[t, t]⟩, ty, pos, aft, g⟩ w fun v w' => Oc L D w' lo e v (qs ++ [q]) ∧ w.grownBy w' v1.ownBlock := by
  have ho' := ho
  obtain ⟨cs, h1, h2, h3⟩ := ho
  have hone : ∀ u ∈ ratC c, u.oneCell' = true := one_cons rfl (one_cons hq.2.1.one (one_cons hq.2.2.1.one one_nil))
  obtain ⟨v, w', hr, h4, h5⟩ := h_append (P := P) (f := f) (dst := dst) (ty := ty) (pos := pos) (aft := aft) (g := g) hu ht hz dC hx hy h1 hs hone h63 hby hlo
  have hsm : Sm D w w' := ho'.gsm h5 (fun b _ => hD b)
  refine ⟨v, w', hr, ⟨cs ++ [c], ?_, by simp [h2], fun k hk => ?_⟩, h5⟩
  · rw [List.length_append, List.length_singleton, List.map_append, List.flatten_append]
    simpa using h4
  rw [List.length_append, List.length_singleton] at hk
  by_cases hk' : k < qs.length
  · rw [show (cs ++ [c]).getD k default = cs.getD k default by simp [List.getElem?_append_left (show k < cs.length by omega)], show (qs ++ [q]).getD k default = qs.getD k default by simp [List.getElem?_append_left hk']]
    exact (h3 k hk').tr hsm
  have e1 : k = qs.length := by omega
  subst e1
  rw [show (cs ++ [c]).getD qs.length default = c by rw [← h2]; simp, show (qs ++ [q]).getD qs.length default = q by simp]
  exact hq.tr hsm
end
section
variable {L : Nat} {D : Nat → TypeId → Prop} {w : World} {v : Value} {es : List Ent'} {c : RC} {q : Rat}
theorem Rk.old (h : Rk L D w c q) : Rk L (fun b T => D b T ∧ b < w.heap.size) w c q := ⟨h.1, h.2.1.old, h.2.2.1.old, h.2.2.2⟩
theorem Ec.old (h : Ec L D w v es) : Ec L (fun b T => D b T ∧ b < w.heap.size) w v es := by
  obtain ⟨xs, h1, h2⟩ := h
  exact ⟨xs, h1.old, h2.imp fun _ _ h => ⟨h.1, h.2.old⟩⟩
theorem Ec.drop (h : Ec L D w v es) (k : Nat) (hk : k ≤ es.length) {A : Option Addr} {m c : Nat} (hv : v = .slice A m c) : Ec L D w (.slice (if c = k then A else A.map (·.add (k * 4))) (m - k) (c - k)) (es.drop k) := by
  obtain ⟨xs, h1, h2⟩ := h
  exact ⟨xs.drop k, se_drop h1 k (by rw [h2.1]; exact hk) hv, h2.drop k⟩
end
theorem ratC_len (x : RC) : (ratC x).length = 3 := rfl
theorem fr_take (xs : List RC) : ∀ k, ((xs.take k).map ratC).flatten = (xs.map ratC).flatten.take (k * 3) := by
  induction xs with
  | nil => intro k; simp
  | cons x xs ih =>
    intro k
    cases k with
    | zero => simp
    | succ k => simp only [List.take_succ_cons, List.map_cons, List.flatten_cons, ih, Nat.succ_mul, List.take_append, ratC_len, Nat.add_sub_cancel]; simp [ratC_len]
theorem Rs.take {L : Nat} {D : Nat → TypeId → Prop} {w : World} {v : Value} {qs : List Rat} (h : Rs L D w v qs) (k : Nat) (hk : k ≤ qs.length) {A : Option Addr} {m c : Nat} (hv : v = .slice A m c) : Rs L D w (.slice A k c) (qs.take k) := by
  obtain ⟨xs, hss, hxl, hz⟩ := h
  have hss' : Ss ratC 3 D w (.slice A k c) (xs.take k) := by
    obtain ⟨_, A', c', rfl, h1, h2, h3, h4⟩ := hss
    injection hv with e1 e2 e3
    subst e1 e2 e3
    have hl : (xs.take k).length = k := by rw [List.length_take]; omega
    refine ⟨⟨by decide, fun x _ => ratC_len x⟩, A', c', by rw [hl], by omega, h2, by rw [flat_len ratC_len], ?_⟩
    rw [fr_take]
    rcases h4 with h4 | ⟨bb, o, rfl, hr⟩
    · exact .inl (by rw [h4]; simp)
    exact .inr ⟨bb, o, rfl, hr.take _⟩
  refine ⟨xs.take k, hss', by rw [List.length_take, List.length_take, hxl], fun j hj => ?_⟩
  rw [List.length_take] at hj
  rw [getD_take' xs oM, getD_take' qs oM]
  exact hz j oM
end Go.Vg
namespace Go.Proofs.YtelbjmhhbeijkaaGreat
open Go.Vg Go.RowKit _root_.Go.Proofs.Tryz
set_option linter.unusedVariables false
open Go.Vm
def dnG (x : List Ent') (k : Nat) : List Rat := (List.range k).map fun (j : Nat) => get x (j : Int)
theorem dnG_len (x : List Ent') (k : Nat) : (dnG x k).length = k := by unfold dnG; rw [List.length_map, List.length_range]
theorem dnG_succ (x : List Ent') (k : Nat) : dnG x (k + 1) = dnG x k ++ [get x (k : Int)] := by unfold dnG; rw [List.range_succ, List.map_append]; rfl
def Dn (x r : List Ent') (k : Nat) : Prop := Asc r ∧ (∀ e ∈ r, (k : Int) ≤ e.1) ∧ ∀ i, (k : Int) ≤ i → get r i = get x i
theorem Dn.start {x rs : List Ent'} (ha : Asc rs) (h0 : ∀ e ∈ rs, 0 ≤ e.1) (hg : ∀ i, get rs i = get x i) : Dn x rs 0 := ⟨ha, fun e he => h0 e he, fun i _ => hg i⟩
theorem Dn.hit {x r : List Ent'} {k : Nat} (h : Dn x r k) (hl : 0 < r.length) (he : (r.getD 0 default).1 = (k : Int)) : (r.getD 0 default).2 = get x (k : Int) ∧ Dn x (r.drop 1) (k + 1) := by
  obtain ⟨ha, h1, h2⟩ := h
  match r, hl with
  | e :: t, _ =>
    have he' : e.1 = (k : Int) := he
    refine ⟨?_, ha.tail, fun y hy => ?_, fun i hi => ?_⟩
    · show e.2 = _
      rw [← h2 _ (Int.le_refl _), ← he']
      exact (get_head ha).symm
    · have := ha.head y hy; omega
    rw [← h2 i oM]
    exact (get_cons_ne oM).symm
theorem Dn.miss {x r : List Ent'} {k : Nat} (h : Dn x r k) (he : 0 < r.length → ¬ (r.getD 0 default).1 = (k : Int)) : get x (k : Int) = 0 ∧ Dn x r (k + 1) := by
  obtain ⟨ha, h1, h2⟩ := h
  have h3 : ∀ y ∈ r, ((k + 1 : Nat) : Int) ≤ y.1 := by
    match r with
    | [] => exact fun y hy => by cases hy
    | e :: t =>
      have h4 : ¬ e.1 = (k : Int) := he (Nat.succ_pos _)
      have h5 := h1 e (List.mem_cons_self ..)
      intro y hy
      rcases List.mem_cons.1 hy with rfl | hy
      · omega
      have := ha.head y hy; omega
  refine ⟨?_, ha, h3, fun i hi => h2 i oM⟩
  rw [← h2 _ (Int.le_refl _)]
  exact get_none fun e he => by have := h3 e he; omega
theorem asc_ends {r : List Ent'} (ha : Asc r) {e : Ent'} (he : e ∈ r) : (r.getD 0 default).1 ≤ e.1 ∧ e.1 ≤ (r.getD (r.length - 1) default).1 := by
  obtain ⟨j, hj, rfl⟩ := List.mem_iff_getElem.1 he
  have hp := List.pairwise_iff_getElem.1 ha
  rw [List.getD_eq_getElem?_getD, List.getD_eq_getElem?_getD, List.getElem?_eq_getElem oM, List.getElem?_eq_getElem oM]
  show r[0].1 ≤ r[j].1 ∧ r[j].1 ≤ r[r.length - 1].1
  constructor
  · rcases Nat.eq_zero_or_pos j with rfl | h
    · exact Int.le_refl _
    have := hp 0 j oM hj h; omega
  rcases Nat.lt_or_ge j (r.length - 1) with h | h
  · have := hp j (r.length - 1) hj oM h; omega
  have : j = r.length - 1 := by omega
  subst this; exact Int.le_refl _
theorem rc_same {w1 w2 : World} {M1 M2 : Nat} {D1 D2 : Nat → TypeId → Prop} {qs : List Rat} {ok1 ok2 : Bool} {v1 v2 : Value} {C : Prop} (h1 : (ok1 = false ∧ v1 = .slice none 0 0 ∧ ¬ C) ∨ (ok1 = true ∧ C ∧ Rc M1 D1 w1 v1 qs))
    (h2 : (ok2 = false ∧ v2 = .slice none 0 0 ∧ ¬ C) ∨ (ok2 = true ∧ C ∧ Rc M2 D2 w2 v2 qs)) (he : Ext w1 w2) (hM : M1 ≤ M2) : ok1 = ok2 ∧ ∃ ys, Rc M2 D1 w2 v1 ys ∧ Rc M2 D2 w2 v2 ys := by
  rcases h1 with ⟨a1, a2, a3⟩ | ⟨a1, a2, b1⟩ <;> rcases h2 with ⟨c1, c2, c3⟩ | ⟨c1, c2, d1⟩
  · rw [a1, c1, a2, c2]; exact ⟨rfl, [], Rc.nil, Rc.nil⟩
  · exact absurd c2 a3
  · exact absurd a2 c3
  exact ⟨a1.trans c1.symm, qs, (b1.tr (Sm.ext he)).wide hM, d1⟩
def ixL (qs : List Rat) (k : Nat) : List Ent' := (List.range k).map fun (j : Nat) => ((j : Int), qs.getD j default)
theorem ixL_len (qs : List Rat) (k : Nat) : (ixL qs k).length = k := by unfold ixL; rw [List.length_map, List.length_range]
theorem ixL_succ (qs : List Rat) (k : Nat) : ixL qs (k + 1) = ixL qs k ++ [((k : Int), qs.getD k default)] := by unfold ixL; rw [List.range_succ, List.map_append]; rfl
theorem ixL_get (qs : List Rat) (i : Int) : ∀ k, get (ixL qs k) i = get (fdK qs k) i
  | 0 => rfl
  | k + 1 => by
    rw [ixL_succ, get_append, ixL_get qs i k]
    have e1 : get [((k : Int), qs.getD k default)] i = if (k : Int) = i then qs.getD k default else 0 := Rat.add_zero _
    rw [fdK]
    split
    · rename_i h
      rw [e1, h]
      split <;> rw [Rat.add_zero]
    rw [get_append]
theorem fdK_dense (qs : List Rat) : dnG (fdK qs qs.length) qs.length = qs := by
  apply List.ext_getElem
  · rw [dnG_len]
  intro j h1 h2
  have e : (dnG (fdK qs qs.length) qs.length)[j] = get (fdK qs qs.length) (j : Int) := by simp [dnG]
  rw [e, fdK_get, if_pos oM, Int.toNat_natCast, List.getD_eq_getElem?_getD, List.getElem?_eq_getElem h2]
  rfl
end Go.Proofs.YtelbjmhhbeijkaaGreat
namespace Go.Proofs.YtelbjmhhbeijkaaGreat
open Go.Vg Go.RowKit _root_.Go.Proofs.Tryz
set_option linter.unusedVariables false
open Go.Vm
set_option maxHeartbeats 4000000 in
theorem h_firstr {w : World} {Dl : Nat → TypeId → Prop} {L : Nat} {vl : Value} {qs : List Rat} (hl0 : Rs L Dl w vl qs) {n : Nat} (hn : n ≤ 1048576) :
    Calls Tryz.prog 19 #[vl, (.int .i64 (n : Int))] w fun e w' => ∃ v, e = .returned v ∧ Rs L Dl w' v (qs.take n) ∧ Ext w w' := by
 have hE : Below w.heap.size w w := Below.refl _ _
 have hl := hl0.old
 clear hl0
 have hlo : w.heap.size ≤ w.heap.size := Nat.le_refl _
 refine calls_of (n := 13) (rs := [.tmp 4]) func19 rfl rfl rfl bL ?_
 refine wset fun F0 hF0 => ?_
 refine wsr (aS (v := (.slice none (0) (0))) rfl (RL.nil (wseq (wsr (mV (v := vl) (hF0 0) ?_)))))
 obtain ⟨A1, c2, hv3, hc4, hc5⟩ := hl.len
 refine rV (r_len underlying37 hv3) (mV (v := (.int .i64 (n : Int))) (hF0 1) (rV (r_gtr (k := .i64) (a := ((qs.length : Nat) : Int)) (b := (n : Int)) rfl rfl) (RL.nil ?_)))
 refine wcond (b := decide ((n : Int) < ((qs.length : Nat) : Int))) rfl (fun hb6 => ?_) (fun hb6 => ?_)
 ·have hb6p := of_decide_eq_true hb6
  refine wsr (mV (v := vl) (hF0 0) (mV (v := (.int .i64 (n : Int))) (hF0 1) ?_))
  have r7 := hl.take (n) oM hv3
  refine rV (r_sh (h := (n : Int)) (kk := n) underlying37 ty44 hv3 rfl oM oM) (aS (v := (.slice A1 (n) (c2))) rfl (RL.nil ?_))
  refine wret ?_
  refine ⟨[(.slice A1 (n) (c2))], ⟨rfl, trivial⟩, ?_⟩
  exact ⟨r7.mono (fun _ _ h => h.1), hE⟩
 have hb6p := of_decide_eq_false hb6
 refine wskip ?_
 refine wsr (mV (v := vl) (hF0 0) (aS (v := vl) rfl (RL.nil ?_)))
 refine wret ?_
 refine ⟨[vl], ⟨rfl, trivial⟩, ?_⟩
 rw [List.take_of_length_le oM]
 exact ⟨hl.mono (fun _ _ h => h.1), hE⟩
set_option maxHeartbeats 4000000 in
theorem r03_same {w : World} {L : Nat} {Dx Dy : Nat → TypeId → Prop} {vx vy : Value} {qs : List Rat} (hx0 : Rc L Dx w vx qs) (hy0 : Rc L Dy w vy qs) (hL : L ≤ 17179869184) :
    Calls Tryz.prog 22 #[vx, vy] w fun e w' => ∃ v, e = .returned v ∧ v = .bool true ∧ Ext w w' := by
 have hE : Below w.heap.size w w := Below.refl _ _
 have hx := hx0
 have hy := hy0
 clear hx0 hy0
 refine calls_of (n := 43) (rs := [.tmp 4]) func22 rfl rfl rfl bL ?_
 refine wset fun F0 hF0 => ?_
 refine wsr (aS (v := (.bool false)) rfl (RL.nil (wseq (wsr (mV (v := vx) (hF0 0) ?_)))))
 obtain ⟨A1, c2, hv3, hc4, hc5⟩ := hx.len
 refine rV (r_len underlying37 hv3) (mV (v := vy) (hF0 1) ?_)
 obtain ⟨A6, c7, hv8, hc9, hc10⟩ := hy.len
 refine rV (r_len underlying37 hv8) (rV (r_neq (k := .i64) (a := ((qs.length : Nat) : Int)) (b := ((qs.length : Nat) : Int)) rfl rfl) (RL.nil ?_))
 refine wcond (b := decide (((qs.length : Nat) : Int) ≠ ((qs.length : Nat) : Int))) rfl (fun hb11 => ?_) (fun hb11 => ?_)
 ·have hb11p := of_decide_eq_true hb11
  exact absurd rfl hb11p
 have hb11p := of_decide_eq_false hb11
 refine wskip ?_
 refine wseq (wsr (aS (v := (.int .i64 0)) rfl (RL.nil ?_)))
 refine wblock ?_
 refine wset fun F12 hF13 => ?_
 refine wloop (σ := Nat) (fun (k : Nat) fl wl => Off (rg 4 2 (rg 11 32 [])) F12 fl ∧ fl 5 = (.int .i64 (k : Int)) ∧ (k ≤ qs.length) ∧ (Rc L Dx wl vx qs) ∧ (Rc L Dy wl vy qs) ∧ (Below w.heap.size w wl)) (fun (k : Nat) => qs.length - k) (0) ?_ ?_
 ·exact ⟨Off.refl _ _, (hF13 5).trans (rfl), Nat.zero_le _, hx, hy, hE⟩
 clear hx hy hE
 rintro k f14 w15 ⟨hoff16, hs17, hk, hx, hy, hE⟩
 refine wseq (wsr (mV hs17 (mV (v := vx) ((hoff16 0 rfl).trans ((hF13 0).trans (hF0 0))) (rV (r_len underlying37 hv3) (rV (r_lss (k := .i64) (a := (k : Int)) (b := ((qs.length : Nat) : Int)) rfl rfl) (RL.nil ?_))))))
 refine wcond (b := decide ((k : Int) < ((qs.length : Nat) : Int))) rfl (fun hb18 => ?_) (fun hb18 => ?_)
 ·have hb18p := of_decide_eq_true hb18
  refine wskip ?_
  refine wseq ?_
  refine wblock ?_
  refine wseq ?_
  refine wdraw mixed fun w19 he20 => ?_
  replace hE := hE.nx he20
  refine ra 0 rfl (fun _ => r_move_as (v := vx) ((hoff16 0 rfl).trans ((hF13 0).trans (hF0 0)))) ?_
  refine ra 1 rfl (fun _ => r_move_as (v := (.int .i64 (k : Int))) hs17) ?_
  replace hx := hx.tr (Sm.ext he20)
  obtain ⟨b21, o22, c23, vn26, vd27, hv24, hc25, hx28, hd29, ln30, ln31⟩ := hx.ix (i := (k : Int)) (k) oM oM
  refine ra 2 rfl (fun _ => r_indexAddr (i := (k : Int)) underlying37 ty44 hv24 rfl oM oM) ?_
  refine RA.rd 3 rfl kR rfl rfl rfl dC (Ext.refl _) (fun u hu => r_loada (cs := [(.bool (decide ((qs.getD (k) default).num < 0))), vn26, vd27]) underlying44 ag44 ty44 rfl (fun j v hj => cell_ext hu (hc25 j v hj))) ?_
  refine RA.all [4] kR rfl ?_
  refine RS.call rfl rfl rfl dC (r_call (vl := [(.agg #[(.bool (decide ((qs.getD (k) default).num < 0))), vn26, vd27])]) ent34 rfl) (r03_cant hx28 hd29 oM oM) ?_ RS.nil
  rintro _ w32 ⟨rfl, he33⟩
  refine rm he33 ?_
  replace hE := hE.nx he33
  refine ra 5 rfl (fun _ => r_not rfl) ?_
  refine ra 6 rfl (fun _ => r_move_as (v := (.bool false)) rfl) ?_
  refine RA.gtake 7 rfl kR rfl rfl rfl rfl dC (fun _ => r_move_as (v := vy) ((hoff16 1 rfl).trans ((hF13 1).trans (hF0 1)))) ?_
  refine RA.gtake 8 rfl kR rfl rfl rfl rfl dC (fun _ => r_move_as (v := (.int .i64 (k : Int))) hs17) ?_
  replace hy := hy.tr (Sm.ext (Ext.trans he20 he33))
  obtain ⟨b34, o35, c36, vn39, vd40, hv37, hc38, hx41, hd42, ln43, ln44⟩ := hy.ix (i := (k : Int)) (k) oM oM
  refine RA.gtake 9 rfl kR rfl rfl rfl rfl dC (fun _ => r_indexAddr (i := (k : Int)) underlying37 ty44 hv37 rfl oM oM) ?_
  refine RA.grd 10 rfl kR rfl rfl rfl rfl rfl dC (Ext.refl _) (fun u hu => r_loada (cs := [(.bool (decide ((qs.getD (k) default).num < 0))), vn39, vd40]) underlying44 ag44 ty44 rfl (fun j v hj => cell_ext hu (hc38 j v hj))) ?_
  refine RA.all [11] kR rfl ?_
  refine RS.gcall rfl rfl rfl rfl rfl dC (r_call (vl := [(.agg #[(.bool (decide ((qs.getD (k) default).num < 0))), vn39, vd40])]) ent34 rfl) (r03_cant hx41 hd42 oM oM) ?_ RS.nil
  rintro _ w45 ⟨rfl, he46⟩
  refine rm he46 ?_
  replace hE := hE.nx he46
  refine RA.gtake 12 rfl kR rfl rfl rfl rfl dC (fun _ => r_not rfl) ?_
  refine ra 13 rfl (fun _ => r_pick_f (v := (.bool false)) rfl rfl) ?_
  refine ra 14 rfl (fun _ => r_move_as (v := (.bool false)) rfl) ?_
  refine RA.gtake 15 rfl kR rfl rfl rfl rfl dC (fun _ => r_move_as (v := vx) ((hoff16 0 rfl).trans ((hF13 0).trans (hF0 0)))) ?_
  refine RA.gtake 16 rfl kR rfl rfl rfl rfl dC (fun _ => r_move_as (v := (.int .i64 (k : Int))) hs17) ?_
  replace hx := hx.tr (Sm.ext (Ext.trans he33 he46))
  obtain ⟨b47, o48, c49, vn52, vd53, hv50, hc51, hx54, hd55, ln56, ln57⟩ := hx.ix (i := (k : Int)) (k) oM oM
  refine RA.gtake 17 rfl kR rfl rfl rfl rfl dC (fun _ => r_indexAddr (i := (k : Int)) underlying37 ty44 hv50 rfl oM oM) ?_
  refine RA.grd 18 rfl kR rfl rfl rfl rfl rfl dC (Ext.refl _) (fun u hu => r_loada (cs := [(.bool (decide ((qs.getD (k) default).num < 0))), vn52, vd53]) underlying44 ag44 ty44 rfl (fun j v hj => cell_ext hu (hc51 j v hj))) ?_
  refine RA.gtake 19 rfl kR rfl rfl rfl rfl dC (fun _ => r_move_as (v := vy) ((hoff16 1 rfl).trans ((hF13 1).trans (hF0 1)))) ?_
  refine RA.gtake 20 rfl kR rfl rfl rfl rfl dC (fun _ => r_move_as (v := (.int .i64 (k : Int))) hs17) ?_
  replace hy := hy.tr (Sm.ext he46)
  obtain ⟨b58, o59, c60, vn63, vd64, hv61, hc62, hx65, hd66, ln67, ln68⟩ := hy.ix (i := (k : Int)) (k) oM oM
  refine RA.gtake 21 rfl kR rfl rfl rfl rfl dC (fun _ => r_indexAddr (i := (k : Int)) underlying37 ty44 hv61 rfl oM oM) ?_
  refine RA.grd 22 rfl kR rfl rfl rfl rfl rfl dC (Ext.refl _) (fun u hu => r_loada (cs := [(.bool (decide ((qs.getD (k) default).num < 0))), vn63, vd64]) underlying44 ag44 ty44 rfl (fun j v hj => cell_ext hu (hc62 j v hj))) ?_
  refine RA.all [23] kR rfl ?_
  refine RS.gcall rfl rfl rfl rfl rfl dC (r_call (vl := [(.agg #[(.bool (decide ((qs.getD (k) default).num < 0))), vn52, vd53]), (.agg #[(.bool (decide ((qs.getD (k) default).num < 0))), vn63, vd64])]) ent17 rfl) (r03_eqt hx54 hd55 hx65 hd66) ?_ RS.nil
  rintro _ w69 ⟨rfl, he70⟩
  refine rm he70 ?_
  replace hE := hE.nx he70
  refine RA.gtake 24 rfl kR rfl rfl rfl rfl dC (fun _ => r_not rfl) ?_
  refine ra 25 rfl (fun _ => r_pick_f (v := (.bool false)) rfl rfl) ?_
  refine RA.done kR ?_
  refine wcond_f rfl ?_
  refine wskip ?_
  refine wregion (mV hs17 (rV (r_add (k := .i64) (a := (k : Int)) (b := 1) (c := (k : Int) + 1) rfl rfl (wi64 oM)) (aS (v := (.int .i64 ((k : Int) + 1))) rfl (RL.nil ?_))))
  replace hx := hx.tr (Sm.ext he70)
  replace hy := hy.tr (Sm.ext he70)
  refine ⟨(k + 1), ⟨?_, ?_, ?_, ?_, ?_, ?_⟩, ?_⟩
  · exact (by repeat (first | exact hoff16 | refine Off.st ?_ dC _))
  · first | rfl | exact int_eq oM | exact bool_eq (by simp)
  · omega
  · exact hx
  · exact hy
  · exact hE
  (try dsimp only)
  omega
 have hb18p := of_decide_eq_false hb18
 refine wexit ?_
 refine wsr (aS (v := (.bool true)) rfl (RL.nil ?_))
 refine wret ?_
 refine ⟨[(.bool true)], ⟨rfl, trivial⟩, ?_⟩
 exact ⟨rfl, hE⟩
set_option maxHeartbeats 4000000 in
theorem r03_canon {w : World} {Dl : Nat → TypeId → Prop} {L : Nat} {vl : Value} {qs : List Rat} (hl0 : Rs L Dl w vl qs) (hL : L ≤ 4294967296) (hnl : qs.length ≤ 1048576) :
    Calls Tryz.prog 24 #[vl] w fun e w' => ∃ v, e = .returned v ∧ Rc (L + 1) (fun b _ => w.heap.size ≤ b) w' v qs ∧ Ext w w' := by
 have hE : Below w.heap.size w w := Below.refl _ _
 have hl := hl0.old
 clear hl0
 have hlo : w.heap.size ≤ w.heap.size := Nat.le_refl _
 refine calls_of (n := 20) (rs := [.tmp 2]) func24 rfl rfl rfl bL ?_
 refine wset fun F0 hF0 => ?_
 refine wsr (aS (v := (.slice none (0) (0))) rfl (RL.nil (wsr (aS (v := (.slice none (0) (0))) rfl (RL.nil (wseq (wsr (aS (v := (.int .i64 0)) rfl (RL.nil ?_)))))))))
 refine wblock ?_
 refine wset fun F1 hF2 => ?_
 refine wloop (σ := Nat × Value) (fun (s : Nat × Value) fl wl => match s with | (k, vr) => Off (rg 3 16 []) F1 fl ∧ fl 4 = (.int .i64 (k : Int)) ∧ fl 3 = vr ∧ (k ≤ qs.length) ∧ (Oc (L + 1) (fun b T => w.heap.size ≤ b ∧ T = 89) wl w.heap.size 44 vr (qs.take k)) ∧ (Rs L (fun b T => Dl b T ∧ b < w.heap.size) wl vl qs) ∧ (Below w.heap.size w wl)) (fun (s : Nat × Value) => match s with | (k, vr) => qs.length - k) (0, (.slice none 0 0)) ?_ ?_
 ·exact ⟨Off.refl _ _, (hF2 4).trans (rfl), (hF2 3).trans (rfl), Nat.zero_le _, Oc.nil, hl, hE⟩
 clear hl hE
 rintro ⟨k, vr⟩ f3 w4 ⟨hoff5, hs6, hs7, hk, hR, hl, hE⟩
 refine wseq (wsr (mV hs6 (mV (v := vl) ((hoff5 0 rfl).trans ((hF2 0).trans (hF0 0))) ?_)))
 obtain ⟨A8, c9, hv10, hc11, hc12⟩ := hl.len
 refine rV (r_len underlying37 hv10) (rV (r_lss (k := .i64) (a := (k : Int)) (b := ((qs.length : Nat) : Int)) rfl rfl) (RL.nil ?_))
 refine wcond (b := decide ((k : Int) < ((qs.length : Nat) : Int))) rfl (fun hb13 => ?_) (fun hb13 => ?_)
 ·have hb13p := of_decide_eq_true hb13
  refine wskip ?_
  refine wseq ?_
  refine wblock ?_
  have hkt : (qs.take k).length = k := by rw [List.length_take]; omega
  refine wregion (mV hs7 (mV (v := vl) ((hoff5 0 rfl).trans ((hF2 0).trans (hF0 0))) (mV hs6 ?_)))
  obtain ⟨b14, o15, c16, s19, vn20, vd21, x22, d23, hv17, hc18, hx24, lm25, ln26, hd27, lm28, ln29, eq30⟩ := hl.ix (i := (k : Int)) (k) oM oM
  refine rV (r_indexAddr (i := (k : Int)) underlying37 ty44 hv17 rfl oM oM) (rV (r_loada (cs := [(.bool s19), vn20, vd21]) underlying44 ag44 ty44 rfl hc18) ?_)
  refine RL.call rfl rfl dC (r_call (vl := [(.agg #[(.bool s19), vn20, vd21])]) ent48 rfl) (r03_norm hx24 lm25 oS hd27 lm28 oS (show ratOf s19 (val x22) (val d23) = qs.getD (k) default from eq30)) ?_
  rintro _ w31 ⟨⟨vn33, vd35, rfl, hn34, hd36, hl37, hl38⟩, he32⟩
  have hlv39 := den_one (qs.getD (k) default)
  replace hn34 := hn34.fr hE
  replace hd36 := hd36.fr hE
  replace hE := hE.nx he32
  refine rU (h_lit (vl := [(0, (.agg #[(.bool (decide ((qs.getD (k) default).num < 0))), vn33, vd35]))]) (cs := [(.bool (decide ((qs.getD (k) default).num < 0))), vn33, vd35]) underlying37 ty44 rfl dC (by first | (simp [Instr.fill, Value.cells]; done) | rfl | kernel_rfl)) ?_
  rintro _ w40 ⟨b41, rfl, hs44, hb43, he42⟩
  have ge_b41 := hE.ge hs44
  replace hR := hR.ext he32
  have on_vr_b41 : vr.ownBlock ≠ some b41 := fun h => absurd (hR.lt _ h) (by rw [hs44]; exact Nat.lt_irrefl _)
  replace hE := hE.nx he42
  replace hn34 := hn34.tr (Sm.ext he42)
  replace hd36 := hd36.tr (Sm.ext he42)
  have hrk : Rk (L + 1) (fun b T => w.heap.size ≤ b ∧ T = 89) w40 (decide ((qs.getD (k) default).num < 0), vn33, vd35) (qs.getD (k) default) := ⟨rfl, hn34, hd36, by omega, by omega⟩
  replace hR := hR.ext he42
  refine rU (h_appendC (v1 := vr) (v2 := (.slice (some ⟨b41, 0, none⟩) (1) (1))) (c := (decide ((qs.getD (k) default).num < 0), vn33, vd35)) (q := qs.getD (k) default) underlying37 ty44 rfl rfl rfl hR (hb43.sc (D := fun _ _ => True) trivial rfl dC) hrk (fun _ h => absurd h.2 dC) (by simp only [maxLen]; omega) oM hE.size) ?_
  rintro v46 w45 ⟨ho47, hg48⟩
  replace hE := hR.gbl hg48 hE hlo hE.size
  refine aS (v := v46) rfl (RL.nil (wregion (mV hs6 (rV (r_add (k := .i64) (a := (k : Int)) (b := 1) (c := (k : Int) + 1) rfl rfl (wi64 oM)) (aS (v := (.int .i64 ((k : Int) + 1))) rfl (RL.nil ?_))))))
  replace hl := (hl.tr (Sm.ext (Ext.trans he32 he42))).tr (hR.gsm hg48 (fun b hb hd => absurd hd.2 (Nat.not_lt_of_le (Nat.le_trans hlo hb))))
  refine ⟨(k + 1, v46), ⟨?_, ?_, ?_, ?_, ?_, ?_, ?_⟩, ?_⟩
  · exact (by repeat (first | exact hoff5 | refine Off.st ?_ dC _))
  · first | rfl | exact int_eq oM | exact bool_eq (by simp)
  · first | rfl | exact int_eq oM | exact bool_eq (by simp)
  · omega
  · rw [take_snoc qs k oM]; exact ho47
  · exact hl
  · exact hE
  (try dsimp only)
  omega
 have hb13p := of_decide_eq_false hb13
 refine wexit ?_
 refine wsr (mV hs7 (aS (v := vr) rfl (RL.nil ?_)))
 refine wret ?_
 refine ⟨[vr], ⟨rfl, trivial⟩, ?_⟩
 have hR2 := hR
 rw [List.take_of_length_le oM] at hR2
 exact ⟨hR2.rc (fun _ h => h) (fun _ _ h => h.1), hE⟩
end Go.Proofs.YtelbjmhhbeijkaaGreat
namespace Go.Proofs.YtelbjmhhbeijkaaGreat
open Go.Vg Go.RowKit _root_.Go.Proofs.Tryz
set_option linter.unusedVariables false
open Go.Vm
set_option maxHeartbeats 4000000 in
theorem v_dense {w : World} {L : Nat} {Dx : Nat → TypeId → Prop} {vx : Value} {x : List Ent'} (hx0 : Es L Dx w vx x) {M : Nat} (hfx : (Asc x ∧ L ≤ M) ∨ (x.length + 1) * (L + 3) ≤ M) (hlx : x.length ≤ 524288) (hM : M ≤ 8589934000) {n : Int} :
    Calls Tryz.prog 20 #[vx, (.int .i64 (n))] w fun e w' => ∃ v, e = .returned v ∧ (∃ vr ok, v = .tuple #[vr, .bool ok] ∧ ((ok = false ∧ vr = .slice none 0 0 ∧ ¬ (0 ≤ n ∧ n ≤ 16384 ∧ ∀ i, get x i ≠ 0 → 0 ≤ i ∧ i < n)) ∨ (ok = true ∧ (0 ≤ n ∧ n ≤ 16384 ∧ ∀ i, get x i ≠ 0 → 0 ≤ i ∧ i < n) ∧ Rc (M + 1) (fun b _ => w.heap.size ≤ b) w' vr (dnG x n.toNat)))) ∧ Ext w w' := by
 have hE : Below w.heap.size w w := Below.refl _ _
 have hx := hx0.old
 clear hx0
 refine calls_of (n := 71) (rs := [.tmp 4, .tmp 5]) func20 rfl rfl rfl bL ?_
 refine wset fun F0 hF0 => ?_
 refine wsr (aS (v := (.slice none (0) (0))) rfl (aS (v := (.bool false)) rfl (RL.nil (wseq (wsr (mV (v := (.int .i64 (n))) (hF0 1) (rV (r_lss (k := .i64) (a := n) (b := 0) rfl rfl) (mV (v := (.bool (decide (n < 0)))) rfl ?_))))))))
 rcases Bool.eq_false_or_eq_true (decide (n < 0)) with hb1 | hb1
 ·have hb1p := of_decide_eq_true hb1
  refine RL.gno rfl rfl (bool_eq hb1) rfl dC ?_
  refine RL.gno rfl rfl (bool_eq hb1) rfl dC ?_
  refine rV (r_pick_t (v := (.bool true)) (bool_eq hb1) rfl) (RL.nil ?_)
  refine wcond_t rfl ?_
  refine wsr (aS (v := (.slice none (0) (0))) rfl (aS (v := (.bool false)) rfl (RL.nil ?_)))
  refine wret ?_
  refine ⟨[(.slice none (0) (0)), (.bool false)], ⟨rfl, ⟨rfl, trivial⟩⟩, ?_⟩
  exact ⟨⟨_, _, rfl, .inl ⟨rfl, rfl, fun h => by have h8 := h.1; have h9 := h.2.1; omega⟩⟩, hE⟩
 have hb1p := of_decide_eq_false hb1
 refine RL.gval rfl rfl (bool_eq hb1) rfl dC (r_move_as (v := (.int .i64 (n))) (hF0 1)) ?_
 refine RL.gval rfl rfl (bool_eq hb1) rfl dC (r_gtr (k := .i64) (a := n) (b := 16384) rfl rfl) ?_
 refine rV (r_pick_f (v := (.bool (decide (16384 < n)))) (bool_eq hb1) rfl) (RL.nil ?_)
 refine wcond (b := decide (16384 < n)) rfl (fun hb2 => ?_) (fun hb2 => ?_)
 ·have hb2p := of_decide_eq_true hb2
  refine wsr (aS (v := (.slice none (0) (0))) rfl (aS (v := (.bool false)) rfl (RL.nil ?_)))
  refine wret ?_
  refine ⟨[(.slice none (0) (0)), (.bool false)], ⟨rfl, ⟨rfl, trivial⟩⟩, ?_⟩
  exact ⟨⟨_, _, rfl, .inl ⟨rfl, rfl, fun h => by have h8 := h.1; have h9 := h.2.1; omega⟩⟩, hE⟩
 have hb2p := of_decide_eq_false hb2
 obtain ⟨m, rfl⟩ : ∃ m : Nat, n = (m : Int) := ⟨n.toNat, by omega⟩
 rw [Int.toNat_natCast]
 refine wskip ?_
 refine wsr (mV (v := vx) (hF0 0) ?_)
 refine cL ent28 (v_norm (x := x) (L := L) (M := M) hx hfx oM oM) rfl ?_
 rintro vn5 w3 ⟨⟨rs6, ho7, ha8, hz9, hg10, hl11, hw12⟩, he4⟩
 replace ho7 := Oe.fr (D' := (fun b T => w.heap.size ≤ b ∧ T = 89)) (lo' := w.heap.size) ho7 hE.size (fun _ _ h => ⟨Nat.le_trans hE.size h.1, h.2⟩)
 replace hE := hE.nx he4
 have hC := (ho7.ec (D' := (fun b _ => w.heap.size ≤ b)) (fun _ h => h) (fun _ _ h => h.1)).old
 have hlo : w.heap.size ≤ w3.heap.size := hE.size
 have hEk : Below w3.heap.size w3 w3 := Below.refl _ _
 refine aS (v := vn5) rfl (RL.nil (wseq ?_))
 refine wset fun F13 hF14 => ?_
 refine wcut (fun fl wl => ∃ t : Bool, Off (rg 17 21 []) F13 fl ∧ fl 37 = (.bool t) ∧ ((t = true ∧ ¬ (∀ e ∈ rs6, 0 ≤ e.1 ∧ e.1 < (m : Int))) ∨ (t = false ∧ ∀ e ∈ rs6, 0 ≤ e.1 ∧ e.1 < (m : Int))) ∧ (Es L (fun b T => Dx b T ∧ b < w.heap.size) wl vx x) ∧ (Below w.heap.size w wl) ∧ (Ec (M + 1) (fun b T => (fun b _ => w.heap.size ≤ b) b T ∧ b < w3.heap.size) wl vn5 rs6) ∧ (Below w3.heap.size w3 wl)) ?_ ?_
 ·have hoff15 := Off.refl (rg 17 21 []) F13
  refine wregion (mV (v := vn5) (hF14 6) ?_)
  obtain ⟨A16, c17, hv18, hc19, hc20⟩ := hC.len
  refine rV (r_len underlying22 hv18) (rV (r_gtr (k := .i64) (a := ((rs6.length : Nat) : Int)) (b := 0) rfl rfl) (mV (v := (.bool (decide (0 < ((rs6.length : Nat) : Int))))) rfl ?_))
  rcases Bool.eq_false_or_eq_true (decide (0 < ((rs6.length : Nat) : Int))) with hb21 | hb21
  ·have hb21p := of_decide_eq_true hb21
   refine RL.gval rfl rfl (bool_eq hb21) rfl dC (r_move_as (v := vn5) (hF14 6)) ?_
   obtain ⟨b22, o23, c24, A27, B28, hv25, hc26, hx29, hd30, ln31, ln32⟩ := hC.ix (i := 0) (0) oM oM
   refine RL.gval rfl rfl (bool_eq hb21) rfl dC (r_indexAddr (i := 0) underlying22 ty55 hv25 rfl oM oM) ?_
   refine RL.gval rfl rfl (bool_eq hb21) rfl dC (r_fieldAddr underlying55 rfl ty3 rfl) ?_
   refine RL.gval rfl rfl (bool_eq hb21) rfl dC (r_load (v := (.int .i64 ((rs6.getD (0) default).1))) underlying3 ag3 rfl (hc26 0 _ rfl)) ?_
   refine RL.gval rfl rfl (bool_eq hb21) rfl dC (r_lss (k := .i64) (a := (rs6.getD (0) default).1) (b := 0) rfl rfl) ?_
   refine RL.gval rfl rfl (bool_eq hb21) rfl dC (r_move_as (v := (.bool (decide (((rs6.getD (0) default).1) < 0)))) rfl) ?_
   rcases Bool.eq_false_or_eq_true (decide (((rs6.getD (0) default).1) < 0)) with hb33 | hb33
   ·have hb33p := of_decide_eq_true hb33
    refine RL.gno rfl rfl (bool_eq hb33) rfl dC ?_
    refine RL.gno rfl rfl (bool_eq hb33) rfl dC ?_
    refine RL.gno rfl rfl (bool_eq hb33) rfl dC ?_
    refine RL.gno rfl rfl (bool_eq hb33) rfl dC ?_
    refine RL.gno rfl rfl (bool_eq hb33) rfl dC ?_
    refine RL.gno rfl rfl (bool_eq hb33) rfl dC ?_
    refine RL.gno rfl rfl (bool_eq hb33) rfl dC ?_
    refine RL.gno rfl rfl (bool_eq hb33) rfl dC ?_
    refine RL.gno rfl rfl (bool_eq hb33) rfl dC ?_
    refine RL.gval rfl rfl (bool_eq hb21) rfl dC (r_pick_t (v := (.bool true)) (bool_eq hb33) rfl) ?_
    refine rV (r_pick_t (v := (.bool true)) (bool_eq hb21) rfl) (RL.nil ?_)
    replace hx := hx.tr (Sm.ext he4)
    refine ⟨true, ?_, ?_, ?_, ?_, ?_, ?_, ?_⟩
    · exact (by repeat (first | exact hoff15 | refine Off.st ?_ dC _))
    · rfl
    · first | exact .inr ⟨rfl, fun e he => by have h8 := asc_ends ha8 he; have h7 := List.length_pos_of_mem he; omega⟩ | exact .inl ⟨rfl, fun h => by have h8 := h _ (getD_mem rs6 0 oM); omega⟩ | (by_cases h9 : (m : Int) ≤ (rs6.getD (rs6.length - 1) default).1; exact .inl ⟨decide_eq_true h9, fun h => by have h8 := h _ (getD_mem rs6 (rs6.length - 1) oM); omega⟩; exact .inr ⟨decide_eq_false h9, fun e he => by have h8 := asc_ends ha8 he; have h7 := List.length_pos_of_mem he; omega⟩)
    · exact hx
    · exact hE
    · exact hC
    exact hEk
   have hb33p := of_decide_eq_false hb33
   refine RL.gval rfl rfl (bool_eq hb33) rfl dC (r_move_as (v := vn5) (hF14 6)) ?_
   refine RL.gval rfl rfl (bool_eq hb33) rfl dC (r_move_as (v := vn5) (hF14 6)) ?_
   refine RL.gval rfl rfl (bool_eq hb33) rfl dC (r_len underlying22 hv18) ?_
   refine RL.gval rfl rfl (bool_eq hb33) rfl dC (r_sub (k := .i64) (a := ((rs6.length : Nat) : Int)) (b := 1) (c := ((rs6.length : Nat) : Int) - 1) rfl rfl (wi64 oM)) ?_
   obtain ⟨b34, o35, c36, A39, B40, hv37, hc38, hx41, hd42, ln43, ln44⟩ := hC.ix (i := ((rs6.length : Nat) : Int) - 1) (rs6.length - 1) oM oM
   refine RL.gval rfl rfl (bool_eq hb33) rfl dC (r_indexAddr (i := ((rs6.length : Nat) : Int) - 1) underlying22 ty55 hv37 rfl oM oM) ?_
   refine RL.gval rfl rfl (bool_eq hb33) rfl dC (r_fieldAddr underlying55 rfl ty3 rfl) ?_
   refine RL.gval rfl rfl (bool_eq hb33) rfl dC (r_load (v := (.int .i64 ((rs6.getD (rs6.length - 1) default).1))) underlying3 ag3 rfl (hc38 0 _ rfl)) ?_
   refine RL.gval rfl rfl (bool_eq hb33) rfl dC (r_move_as (v := (.int .i64 (m : Int))) ((hF14 1).trans (hF0 1))) ?_
   refine RL.gval rfl rfl (bool_eq hb33) rfl dC (r_geq (k := .i64) (a := (rs6.getD (rs6.length - 1) default).1) (b := (m : Int)) rfl rfl) ?_
   refine RL.gval rfl rfl (bool_eq hb21) rfl dC (r_pick_f (v := (.bool (decide ((m : Int) ≤ ((rs6.getD (rs6.length - 1) default).1))))) (bool_eq hb33) rfl) ?_
   refine rV (r_pick_t (v := (.bool (decide ((m : Int) ≤ ((rs6.getD (rs6.length - 1) default).1))))) (bool_eq hb21) rfl) (RL.nil ?_)
   replace hx := hx.tr (Sm.ext he4)
   refine ⟨decide ((m : Int) ≤ ((rs6.getD (rs6.length - 1) default).1)), ?_, ?_, ?_, ?_, ?_, ?_, ?_⟩
   · exact (by repeat (first | exact hoff15 | refine Off.st ?_ dC _))
   · rfl
   · first | exact .inr ⟨rfl, fun e he => by have h8 := asc_ends ha8 he; have h7 := List.length_pos_of_mem he; omega⟩ | exact .inl ⟨rfl, fun h => by have h8 := h _ (getD_mem rs6 0 oM); omega⟩ | (by_cases h9 : (m : Int) ≤ (rs6.getD (rs6.length - 1) default).1; exact .inl ⟨decide_eq_true h9, fun h => by have h8 := h _ (getD_mem rs6 (rs6.length - 1) oM); omega⟩; exact .inr ⟨decide_eq_false h9, fun e he => by have h8 := asc_ends ha8 he; have h7 := List.length_pos_of_mem he; omega⟩)
   · exact hx
   · exact hE
   · exact hC
   exact hEk
  have hb21p := of_decide_eq_false hb21
  refine RL.gno rfl rfl (bool_eq hb21) rfl dC ?_
  refine RL.gno rfl rfl (bool_eq hb21) rfl dC ?_
  refine RL.gno rfl rfl (bool_eq hb21) rfl dC ?_
  refine RL.gno rfl rfl (bool_eq hb21) rfl dC ?_
  refine RL.gno rfl rfl (bool_eq hb21) rfl dC ?_
  refine RL.gno rfl rfl (bool_eq hb21) rfl dC ?_
  refine RL.gun rfl rfl rfl rfl dC ?_
  refine RL.gun rfl rfl rfl rfl dC ?_
  refine RL.gun rfl rfl rfl rfl dC ?_
  refine RL.gun rfl rfl rfl rfl dC ?_
  refine RL.gun rfl rfl rfl rfl dC ?_
  refine RL.gun rfl rfl rfl rfl dC ?_
  refine RL.gun rfl rfl rfl rfl dC ?_
  refine RL.gun rfl rfl rfl rfl dC ?_
  refine RL.gun rfl rfl rfl rfl dC ?_
  refine RL.gno rfl rfl (bool_eq hb21) rfl dC ?_
  refine rV (r_pick_f (v := (.bool false)) (bool_eq hb21) rfl) (RL.nil ?_)
  replace hx := hx.tr (Sm.ext he4)
  refine ⟨false, ?_, ?_, ?_, ?_, ?_, ?_, ?_⟩
  · exact (by repeat (first | exact hoff15 | refine Off.st ?_ dC _))
  · rfl
  · first | exact .inr ⟨rfl, fun e he => by have h8 := asc_ends ha8 he; have h7 := List.length_pos_of_mem he; omega⟩ | exact .inl ⟨rfl, fun h => by have h8 := h _ (getD_mem rs6 0 oM); omega⟩ | (by_cases h9 : (m : Int) ≤ (rs6.getD (rs6.length - 1) default).1; exact .inl ⟨decide_eq_true h9, fun h => by have h8 := h _ (getD_mem rs6 (rs6.length - 1) oM); omega⟩; exact .inr ⟨decide_eq_false h9, fun e he => by have h8 := asc_ends ha8 he; have h7 := List.length_pos_of_mem he; omega⟩)
  · exact hx
  · exact hE
  · exact hC
  exact hEk
 clear hx hE hC hEk
 rintro f45 w46 ⟨t, hoff47, hs48, ht, hx, hE, hC, hEk⟩
 refine wcond (b := t) hs48 (fun hb49 => ?_) (fun hb49 => ?_)
 ·have hb49p := hb49
  have hno := (ht.resolve_right (fun h => by rw [h.1] at hb49; cases hb49)).2
  refine wsr (aS (v := (.slice none (0) (0))) rfl (aS (v := (.bool false)) rfl (RL.nil ?_)))
  refine wret ?_
  refine ⟨[(.slice none (0) (0)), (.bool false)], ⟨rfl, ⟨rfl, trivial⟩⟩, ?_⟩
  exact ⟨⟨_, _, rfl, .inl ⟨rfl, rfl, fun h => hno fun e he => h.2.2 _ (by rw [← hg10 e.1, get_mem ha8 he]; exact hz9 e he)⟩⟩, hE⟩
 have hb49p := hb49
 have hin := (ht.resolve_left (fun h => by rw [h.1] at hb49; cases hb49)).2
 refine wskip ?_
 refine wsr (mV (v := (.int .i64 (m : Int))) ((hoff47 1 rfl).trans ((hF14 1).trans (hF0 1))) ?_)
 have hn55 : ((m : Int) : Int) = (m : Int) := by omega
 refine rU (h_make (n := m) (c := m) underlying37 ty44 rfl (int_eq hn55) (int_eq hn55) (Nat.le_refl _) oM oM) ?_
 rintro _ w50 ⟨b51, rfl, hs54, hb53, he52⟩
 have ge_b51 := hE.ge hs54
 have gk_b51 := hEk.ge hs54
 replace hE := hE.nx he52
 replace hEk := hEk.nx he52
 replace hb53 := Ak.made (L := M + 1) (D := (fun b _ => w.heap.size ≤ b)) hb53
 refine aS (v := (.slice (some ⟨b51, 0, none⟩) (m) (m))) rfl (RL.nil (wseq (wsr (mV (v := (.slice (some ⟨b51, 0, none⟩) (m) (m))) rfl (rV (r_len underlying37 rfl) (mV (v := (.int .i64 0)) rfl (RL.nil ?_)))))))
 refine wblock ?_
 refine wset fun F56 hF57 => ?_
 refine wloop (σ := Nat × List Ent' × Value) (fun (s : Nat × List Ent' × Value) fl wl => match s with | (k, r, vr) => Off (6 :: (8 :: (rg 42 28 []))) F56 fl ∧ fl 42 = (.int .i64 (k : Int)) ∧ fl 6 = vr ∧ (k ≤ m) ∧ (Dn x r k) ∧ (Ec (M + 1) (fun b T => (fun b _ => w.heap.size ≤ b) b T ∧ b < w3.heap.size) wl vr r) ∧ (Ak (M + 1) (fun b _ => w.heap.size ≤ b) wl b51 44 (dnG x k) m) ∧ (Es L (fun b T => Dx b T ∧ b < w.heap.size) wl vx x) ∧ (Below w.heap.size w wl) ∧ (Below w3.heap.size w3 wl)) (fun (s : Nat × List Ent' × Value) => match s with | (k, r, vr) => m - k) (0, rs6, vn5) ?_ ?_
 ·replace hC := hC.tr (Sm.ext he52)
  replace hx := hx.tr (Sm.ext he52)
  exact ⟨Off.refl _ _, (hF57 42).trans (rfl), (hF57 6).trans ((((hoff47 6 rfl).trans (hF14 6))).trans rfl), Nat.zero_le _, Dn.start ha8 (fun e he => (hin e he).1) hg10, hC, hb53, hx, hE, hEk⟩
 clear hx hE hC hEk hb53
 rintro ⟨k, r, vr⟩ f58 w59 ⟨hoff60, hs61, hs62, hk, hD, hC, hb53, hx, hE, hEk⟩
 refine wsr (rV (r_lss (k := .i64) (a := (k : Int)) (b := (m : Int)) hs61 ((hoff60 41 rfl).trans (hF57 41))) (RL.nil (wseq ?_)))
 refine wcond (b := decide ((k : Int) < (m : Int))) rfl (fun hb63 => ?_) (fun hb63 => ?_)
 ·have hb63p := of_decide_eq_true hb63
  refine wskip ?_
  refine wseq ?_
  refine wblock ?_
  refine wseq ?_
  have hdl := dnG_len x k
  refine wregion (mV hs61 (aS (v := (.int .i64 (k : Int))) rfl (RL.nil (wsr (mV hs62 ?_)))))
  obtain ⟨A64, c65, hv66, hc67, hc68⟩ := hC.len
  refine rV (r_len underlying22 hv66) (rV (r_gtr (k := .i64) (a := ((r.length : Nat) : Int)) (b := 0) rfl rfl) (mV (v := (.bool (decide (0 < ((r.length : Nat) : Int))))) rfl ?_))
  rcases Bool.eq_false_or_eq_true (decide (0 < ((r.length : Nat) : Int))) with hb69 | hb69
  ·have hb69p := of_decide_eq_true hb69
   refine RL.gval rfl rfl (bool_eq hb69) rfl dC (r_move_as (v := vr) hs62) ?_
   obtain ⟨b70, o71, c72, A75, B76, hv73, hc74, hx77, hd78, ln79, ln80⟩ := hC.ix (i := 0) (0) oM oM
   refine RL.gval rfl rfl (bool_eq hb69) rfl dC (r_indexAddr (i := 0) underlying22 ty55 hv73 rfl oM oM) ?_
   refine RL.gval rfl rfl (bool_eq hb69) rfl dC (r_fieldAddr underlying55 rfl ty3 rfl) ?_
   refine RL.gval rfl rfl (bool_eq hb69) rfl dC (r_load (v := (.int .i64 ((r.getD (0) default).1))) underlying3 ag3 rfl (hc74 0 _ rfl)) ?_
   refine RL.gval rfl rfl (bool_eq hb69) rfl dC (r_move_as (v := (.int .i64 (k : Int))) rfl) ?_
   refine RL.gval rfl rfl (bool_eq hb69) rfl dC (r_eql (k := .i64) (a := (r.getD (0) default).1) (b := (k : Int)) rfl rfl) ?_
   refine rV (r_pick_t (v := (.bool (decide (((r.getD (0) default).1) = (k : Int))))) (bool_eq hb69) rfl) (RL.nil ?_)
   refine wcond (b := decide (((r.getD (0) default).1) = (k : Int))) rfl (fun hb81 => ?_) (fun hb81 => ?_)
   ·have hb81p := of_decide_eq_true hb81
    obtain ⟨hq, hD2⟩ := hD.hit oM hb81p
    refine wsr (mV (v := (.slice (some ⟨b51, 0, none⟩) (m) (m))) ((hoff60 7 rfl).trans (hF57 7)) (mV (v := (.int .i64 (k : Int))) rfl (mV hs62 ?_)))
    obtain ⟨b82, o83, c84, A87, B88, hv85, hc86, hx89, hd90, ln91, ln92⟩ := hC.ix (i := 0) (0) oM oM
    refine rV (r_indexAddr (i := 0) underlying22 ty55 hv85 rfl oM oM) (rV (r_fieldAddr underlying55 rfl ty44 rfl) (rV (r_loada (cs := [(.bool (decide ((r.getD (0) default).2.num < 0))), (sv A87), (sv B88)]) underlying44 ag44 ty44 rfl (cdrop hc86 1)) (rV (r_indexAddr (i := (k : Int)) underlying37 ty44 rfl rfl oM oM) ?_)))
    have hrk : Rk (M + 1) (fun b _ => w.heap.size ≤ b) w59 (decide ((r.getD (0) default).2.num < 0), (sv A87), (sv B88)) (get x (k : Int)) := by rw [← hq]; exact ⟨rfl, hx89.mono (fun _ _ h => h.1), hd90.mono (fun _ _ h => h.1), by omega, by omega⟩
    refine RL.runs rfl rfl (h_setK (i := (k : Int)) (q := get x (k : Int)) ty44 rfl rfl hb53 hrk oM oM) ?_
    rintro w93 ⟨ha94, hx95⟩
    replace hE := hE.nb hx95 ge_b51
    replace hEk := hEk.nb hx95 gk_b51
    have nb_hx95 := hb53.nb
    replace hb53 := ha94
    refine RL.nil (wregion (mV hs62 ?_))
    replace hC := hC.tr (Sm.exc hx95 (fun _ _ _ _ hd => absurd hd.2 (Nat.not_lt_of_le gk_b51)))
    have r96 := hC.drop (1) oM hv66
    refine rV (r_sl (l := 1) (kk := 1) underlying22 ty55 hv66 rfl oM oM) (aS (v := (.slice (if c65 = 1 then (A64 : Option Addr) else (A64 : Option Addr).map (·.add (1 * 4))) (r.length - 1) (c65 - 1))) rfl (RL.nil (wregion (rV (r_add (k := .i64) (a := (k : Int)) (b := 1) (c := (k : Int) + 1) hs61 rfl (wi64 oM)) (mV (v := (.int .i64 ((k : Int) + 1))) rfl (RL.nil ?_))))))
    replace hx := hx.tr (Sm.exc hx95 (fun _ _ _ _ hd => absurd hd.2 (Nat.not_lt_of_le ge_b51)))
    refine ⟨(k + 1, (r.drop (1)), (.slice (if c65 = 1 then (A64 : Option Addr) else (A64 : Option Addr).map (·.add (1 * 4))) (r.length - 1) (c65 - 1))), ⟨?_, ?_, ?_, ?_, ?_, ?_, ?_, ?_, ?_, ?_⟩, ?_⟩
    · exact (by repeat (first | exact hoff60 | refine Off.st ?_ dC _ | refine Off.via hoff47 dC ?_ | refine Off.eq hF14 ?_))
    · first | rfl | exact int_eq oM | exact bool_eq (by simp)
    · first | rfl | exact int_eq oM | exact bool_eq (by simp)
    · omega
    · exact hD2
    · exact r96
    · rw [dnG_succ]; exact hb53
    · exact hx
    · exact hE
    · exact hEk
    (try dsimp only)
    omega
   have hb81p := of_decide_eq_false hb81
   have hms : 0 < r.length → ¬ (r.getD 0 default).1 = (k : Int) := fun _ => hb81p
   obtain ⟨hz0, hD2⟩ := hD.miss hms
   replace hz0 : get x (k : Int) = ((0 : Int) : Rat) := hz0
   refine wregion (mV (v := (.slice (some ⟨b51, 0, none⟩) (m) (m))) ((hoff60 7 rfl).trans (hF57 7)) (mV (v := (.int .i64 (k : Int))) rfl ?_))
   refine cL ent42 (q_from oM) rfl ?_
   rintro _ w97 ⟨⟨vn99, vd101, rfl, hn100, hd102, hl103, hl104⟩, he98⟩
   have hlv105 := den_one ((0 : Int) : Rat)
   replace hn100 := hn100.fr hE
   replace hd102 := hd102.fr hE
   replace hE := hE.nx he98
   replace hEk := hEk.nx he98
   refine rV (r_indexAddr (i := (k : Int)) underlying37 ty44 rfl rfl oM oM) ?_
   have hrk : Rk (M + 1) (fun b _ => w.heap.size ≤ b) w97 (decide ((((0 : Int) : Rat)).num < 0), vn99, vd101) (get x (k : Int)) := by rw [hz0]; exact ⟨rfl, hn100.mono (fun _ _ h => h.1), hd102.mono (fun _ _ h => h.1), Nat.zero_le _, Nat.le_add_left 1 M⟩
   replace hb53 := hb53.ext he98
   refine RL.runs rfl rfl (h_setK (i := (k : Int)) (q := get x (k : Int)) ty44 rfl rfl hb53 hrk oM oM) ?_
   rintro w106 ⟨ha107, hx108⟩
   replace hE := hE.nb hx108 ge_b51
   replace hEk := hEk.nb hx108 gk_b51
   have nb_hx108 := hb53.nb
   replace hb53 := ha107
   refine RL.nil (wregion (rV (r_add (k := .i64) (a := (k : Int)) (b := 1) (c := (k : Int) + 1) hs61 rfl (wi64 oM)) (mV (v := (.int .i64 ((k : Int) + 1))) rfl (RL.nil ?_))))
   replace hC := (hC.tr (Sm.ext he98)).tr (Sm.exc hx108 (fun _ _ _ _ hd => absurd hd.2 (Nat.not_lt_of_le gk_b51)))
   replace hx := (hx.tr (Sm.ext he98)).tr (Sm.exc hx108 (fun _ _ _ _ hd => absurd hd.2 (Nat.not_lt_of_le ge_b51)))
   refine ⟨(k + 1, r, vr), ⟨?_, ?_, ?_, ?_, ?_, ?_, ?_, ?_, ?_, ?_⟩, ?_⟩
   · exact (by repeat (first | exact hoff60 | refine Off.st ?_ dC _ | refine Off.via hoff47 dC ?_ | refine Off.eq hF14 ?_))
   · first | rfl | exact int_eq oM | exact bool_eq (by simp)
   · refine (hs62).trans ?_
     first | rfl | exact int_eq oM | exact bool_eq (by simp)
   · omega
   · exact hD2
   · exact hC
   · rw [dnG_succ]; exact hb53
   · exact hx
   · exact hE
   · exact hEk
   (try dsimp only)
   omega
  have hb69p := of_decide_eq_false hb69
  have hms : 0 < r.length → ¬ (r.getD 0 default).1 = (k : Int) := fun h => by omega
  refine RL.gno rfl rfl (bool_eq hb69) rfl dC ?_
  refine RL.gno rfl rfl (bool_eq hb69) rfl dC ?_
  refine RL.gno rfl rfl (bool_eq hb69) rfl dC ?_
  refine RL.gno rfl rfl (bool_eq hb69) rfl dC ?_
  refine RL.gno rfl rfl (bool_eq hb69) rfl dC ?_
  refine RL.gno rfl rfl (bool_eq hb69) rfl dC ?_
  refine rV (r_pick_f (v := (.bool false)) (bool_eq hb69) rfl) (RL.nil ?_)
  refine wcond_f rfl ?_
  obtain ⟨hz0, hD2⟩ := hD.miss hms
  replace hz0 : get x (k : Int) = ((0 : Int) : Rat) := hz0
  refine wregion (mV (v := (.slice (some ⟨b51, 0, none⟩) (m) (m))) ((hoff60 7 rfl).trans (hF57 7)) (mV (v := (.int .i64 (k : Int))) rfl ?_))
  refine cL ent42 (q_from oM) rfl ?_
  rintro _ w109 ⟨⟨vn111, vd113, rfl, hn112, hd114, hl115, hl116⟩, he110⟩
  have hlv117 := den_one ((0 : Int) : Rat)
  replace hn112 := hn112.fr hE
  replace hd114 := hd114.fr hE
  replace hE := hE.nx he110
  replace hEk := hEk.nx he110
  refine rV (r_indexAddr (i := (k : Int)) underlying37 ty44 rfl rfl oM oM) ?_
  have hrk : Rk (M + 1) (fun b _ => w.heap.size ≤ b) w109 (decide ((((0 : Int) : Rat)).num < 0), vn111, vd113) (get x (k : Int)) := by rw [hz0]; exact ⟨rfl, hn112.mono (fun _ _ h => h.1), hd114.mono (fun _ _ h => h.1), Nat.zero_le _, Nat.le_add_left 1 M⟩
  replace hb53 := hb53.ext he110
  refine RL.runs rfl rfl (h_setK (i := (k : Int)) (q := get x (k : Int)) ty44 rfl rfl hb53 hrk oM oM) ?_
  rintro w118 ⟨ha119, hx120⟩
  replace hE := hE.nb hx120 ge_b51
  replace hEk := hEk.nb hx120 gk_b51
  have nb_hx120 := hb53.nb
  replace hb53 := ha119
  refine RL.nil (wregion (rV (r_add (k := .i64) (a := (k : Int)) (b := 1) (c := (k : Int) + 1) hs61 rfl (wi64 oM)) (mV (v := (.int .i64 ((k : Int) + 1))) rfl (RL.nil ?_))))
  replace hC := (hC.tr (Sm.ext he110)).tr (Sm.exc hx120 (fun _ _ _ _ hd => absurd hd.2 (Nat.not_lt_of_le gk_b51)))
  replace hx := (hx.tr (Sm.ext he110)).tr (Sm.exc hx120 (fun _ _ _ _ hd => absurd hd.2 (Nat.not_lt_of_le ge_b51)))
  refine ⟨(k + 1, r, vr), ⟨?_, ?_, ?_, ?_, ?_, ?_, ?_, ?_, ?_, ?_⟩, ?_⟩
  · exact (by repeat (first | exact hoff60 | refine Off.st ?_ dC _ | refine Off.via hoff47 dC ?_ | refine Off.eq hF14 ?_))
  · first | rfl | exact int_eq oM | exact bool_eq (by simp)
  · refine (hs62).trans ?_
    first | rfl | exact int_eq oM | exact bool_eq (by simp)
  · omega
  · exact hD2
  · exact hC
  · rw [dnG_succ]; exact hb53
  · exact hx
  · exact hE
  · exact hEk
  (try dsimp only)
  omega
 have hb63p := of_decide_eq_false hb63
 refine wexit ?_
 refine wsr (mV (v := (.slice (some ⟨b51, 0, none⟩) (m) (m))) ((hoff60 7 rfl).trans (hF57 7)) (aS (v := (.slice (some ⟨b51, 0, none⟩) (m) (m))) rfl (aS (v := (.bool true)) rfl (RL.nil ?_))))
 refine wret ?_
 refine ⟨[(.slice (some ⟨b51, 0, none⟩) (m) (m)), (.bool true)], ⟨rfl, ⟨rfl, trivial⟩⟩, ?_⟩
 rw [show k = m by omega] at hb53
 exact ⟨⟨_, _, rfl, .inr ⟨rfl, ⟨by omega, by omega, fun i hi => cov_of hin (by rw [hg10 i]; exact hi)⟩, hb53.rc (dnG_len _ _) ge_b51 (fun _ _ h => h) oM⟩⟩, hE⟩
end Go.Proofs.YtelbjmhhbeijkaaGreat
namespace Go.Proofs.YtelbjmhhbeijkaaGreat
open Go.Vg Go.RowKit _root_.Go.Proofs.Tryz
set_option linter.unusedVariables false
open Go.Vm
set_option maxHeartbeats 4000000 in
theorem r06_dense {w : World} {L : Nat} {Des : Nat → TypeId → Prop} {ves : Value} {es : List Ent'} (hes0 : Es L Des w ves es) {M : Nat} (hM : (es.length + 1) * (L + 3) + 3 ≤ M) (hMB : M ≤ 8589934000) (hln : es.length ≤ 1048576) {n : Int} :
    Calls Tryz.prog 21 #[ves, (.int .i64 (n))] w fun e w' => ∃ v, e = .returned v ∧ (∃ vr ok, v = .tuple #[vr, .bool ok] ∧ ((ok = false ∧ vr = .slice none 0 0 ∧ ¬ (0 ≤ n ∧ n ≤ 16384 ∧ ∀ i, get es i ≠ 0 → 0 ≤ i ∧ i < n)) ∨ (ok = true ∧ (0 ≤ n ∧ n ≤ 16384 ∧ ∀ i, get es i ≠ 0 → 0 ≤ i ∧ i < n) ∧ Rc (M) (fun b _ => w.heap.size ≤ b) w' vr (dnG es n.toNat)))) ∧ Ext w w' := by
 have hE : Below w.heap.size w w := Below.refl _ _
 have hes := hes0.old
 clear hes0
 refine calls_of (n := 35) (rs := [.tmp 4, .tmp 5]) func21 rfl rfl rfl bL ?_
 refine wset fun F0 hF0 => ?_
 refine wsr (aS (v := (.slice none (0) (0))) rfl (aS (v := (.bool false)) rfl (RL.nil (wseq (wsr (mV (v := (.int .i64 (n))) (hF0 1) (rV (r_lss (k := .i64) (a := n) (b := 0) rfl rfl) (mV (v := (.bool (decide (n < 0)))) rfl ?_))))))))
 rcases Bool.eq_false_or_eq_true (decide (n < 0)) with hb1 | hb1
 ·have hb1p := of_decide_eq_true hb1
  refine RL.gno rfl rfl (bool_eq hb1) rfl dC ?_
  refine RL.gno rfl rfl (bool_eq hb1) rfl dC ?_
  refine rV (r_pick_t (v := (.bool true)) (bool_eq hb1) rfl) (mV (v := (.bool true)) rfl ?_)
  refine RL.gno rfl rfl rfl rfl dC ?_
  refine RL.gno rfl rfl rfl rfl dC ?_
  refine RL.gno rfl rfl rfl rfl dC ?_
  refine RL.gno rfl rfl rfl rfl dC ?_
  refine RL.gno rfl rfl rfl rfl dC ?_
  refine rV (r_pick_t (v := (.bool true)) rfl rfl) (RL.nil ?_)
  refine wcond_t rfl ?_
  refine wsr (aS (v := (.slice none (0) (0))) rfl (aS (v := (.bool false)) rfl (RL.nil ?_)))
  refine wret ?_
  refine ⟨[(.slice none (0) (0)), (.bool false)], ⟨rfl, ⟨rfl, trivial⟩⟩, ?_⟩
  exact ⟨⟨_, _, rfl, .inl ⟨rfl, rfl, fun h => by have h8 := h.1; have h9 := h.2.1; omega⟩⟩, hE⟩
 have hb1p := of_decide_eq_false hb1
 refine RL.gval rfl rfl (bool_eq hb1) rfl dC (r_move_as (v := (.int .i64 (n))) (hF0 1)) ?_
 refine RL.gval rfl rfl (bool_eq hb1) rfl dC (r_gtr (k := .i64) (a := n) (b := 16384) rfl rfl) ?_
 refine rV (r_pick_f (v := (.bool (decide (16384 < n)))) (bool_eq hb1) rfl) (mV (v := (.bool (decide (16384 < n)))) rfl ?_)
 rcases Bool.eq_false_or_eq_true (decide (16384 < n)) with hb2 | hb2
 ·have hb2p := of_decide_eq_true hb2
  refine RL.gno rfl rfl (bool_eq hb2) rfl dC ?_
  refine RL.gno rfl rfl (bool_eq hb2) rfl dC ?_
  refine RL.gno rfl rfl (bool_eq hb2) rfl dC ?_
  refine RL.gno rfl rfl (bool_eq hb2) rfl dC ?_
  refine RL.gno rfl rfl (bool_eq hb2) rfl dC ?_
  refine rV (r_pick_t (v := (.bool true)) (bool_eq hb2) rfl) (RL.nil ?_)
  refine wcond_t rfl ?_
  refine wsr (aS (v := (.slice none (0) (0))) rfl (aS (v := (.bool false)) rfl (RL.nil ?_)))
  refine wret ?_
  refine ⟨[(.slice none (0) (0)), (.bool false)], ⟨rfl, ⟨rfl, trivial⟩⟩, ?_⟩
  exact ⟨⟨_, _, rfl, .inl ⟨rfl, rfl, fun h => by have h8 := h.1; have h9 := h.2.1; omega⟩⟩, hE⟩
 have hb2p := of_decide_eq_false hb2
 obtain ⟨m, rfl⟩ : ∃ m : Nat, n = (m : Int) := ⟨n.toNat, by omega⟩
 rw [Int.toNat_natCast]
 refine RL.gval rfl rfl (bool_eq hb2) rfl dC (r_move_as (v := ves) (hF0 0)) ?_
 refine RL.gcall rfl rfl (bool_eq hb2) rfl dC (r_call (vl := [ves]) ent31 rfl) (r06_norm (es := es) (L := L) (M := M) hes hM hMB oM) ?_
 rintro vn5 w3 ⟨⟨rs6, ho7, ha8, hz9, hg10, hl11⟩, he4⟩
 replace ho7 := Oe.fr (D' := (fun b T => w.heap.size ≤ b ∧ T = 89)) (lo' := w.heap.size) ho7 hE.size (fun _ _ h => ⟨Nat.le_trans hE.size h.1, h.2⟩)
 replace hE := hE.nx he4
 refine RL.gval rfl rfl (bool_eq hb2) rfl dC (r_move_as (v := (.int .i64 (m : Int))) (hF0 1)) ?_
 refine RL.gcall rfl rfl (bool_eq hb2) rfl dC (r_call (vl := [vn5, (.int .i64 (m : Int))]) ent33 rfl) (r06_valid (n := m) (ho7.ec (D' := (fun b _ => w.heap.size ≤ b)) (fun _ h => h) (fun _ _ h => h.1)) oM oM ha8 hz9) ?_
 rintro _ w12 ⟨⟨rw_, rfl, hvd⟩, he13⟩
 replace hE := hE.nx he13
 refine RL.gval rfl rfl (bool_eq hb2) rfl dC (r_not rfl) ?_
 refine rV (r_pick_f (v := (.bool (!rw_))) (bool_eq hb2) rfl) (RL.nil ?_)
 refine wcond (b := !rw_) rfl (fun hb14 => ?_) (fun hb14 => ?_)
 ·have hb14p := hb14
  have hout : ¬ (∀ i, get es i ≠ 0 → 0 ≤ i ∧ i < (m : Int)) := fun h => absurd (hvd.2 fun e he => h _ (by rw [← hg10 e.1, get_mem ha8 he]; exact hz9 e he)) (by rw [show rw_ = false by simpa using hb14]; decide)
  refine wsr (aS (v := (.slice none (0) (0))) rfl (aS (v := (.bool false)) rfl (RL.nil ?_)))
  refine wret ?_
  refine ⟨[(.slice none (0) (0)), (.bool false)], ⟨rfl, ⟨rfl, trivial⟩⟩, ?_⟩
  exact ⟨⟨_, _, rfl, .inl ⟨rfl, rfl, fun h => hout h.2.2⟩⟩, hE⟩
 have hb14p := hb14
 have hv1 : rw_ = true := by simpa using hb14
 refine wskip ?_
 refine wseq ?_
 have hin : ∀ e ∈ rs6, 0 ≤ e.1 ∧ e.1 < (m : Int) := hvd.1 hv1
 refine wregion (mV (v := (.int .i64 (m : Int))) (hF0 1) ?_)
 have hn20 : ((m : Int) : Int) = (m : Int) := by omega
 refine rU (h_make (n := m) (c := m) underlying37 ty44 rfl (int_eq hn20) (int_eq hn20) (Nat.le_refl _) oM oM) ?_
 rintro _ w15 ⟨b16, rfl, hs19, hb18, he17⟩
 have ge_b16 := hE.ge hs19
 replace hE := hE.nx he17
 replace hb18 := Ak.made (L := M) (D := (fun b T => w.heap.size ≤ b ∧ T = 89)) hb18
 refine aS (v := (.slice (some ⟨b16, 0, none⟩) (m) (m))) rfl (RL.nil (wseq (wsr (aS (v := (.int .i64 0)) rfl (RL.nil ?_)))))
 refine wblock ?_
 refine wset fun F21 hF22 => ?_
 refine wloop (σ := Nat) (fun (k : Nat) fl wl => Off (7 :: (rg 23 11 [])) F21 fl ∧ fl 7 = (.int .i64 (k : Int)) ∧ (k ≤ m) ∧ (Ak M (fun b T => w.heap.size ≤ b ∧ T = 89) wl b16 44 (dnG es k) m) ∧ (Es L (fun b T => Des b T ∧ b < w.heap.size) wl ves es) ∧ (Below w.heap.size w wl)) (fun (k : Nat) => m - k) (0) ?_ ?_
 ·have hm23 := Ext.trans he4 (Ext.trans he13 he17)
  replace hes := hes.tr (Sm.ext hm23)
  exact ⟨Off.refl _ _, (hF22 7).trans (rfl), Nat.zero_le _, hb18, hes, hE⟩
 clear hes hE hb18
 rintro k f24 w25 ⟨hoff26, hs27, hk, hb18, hes, hE⟩
 refine wseq (wsr (mV hs27 (mV (v := (.int .i64 (m : Int))) ((hoff26 1 rfl).trans ((hF22 1).trans (hF0 1))) (rV (r_lss (k := .i64) (a := (k : Int)) (b := (m : Int)) rfl rfl) (RL.nil ?_)))))
 refine wcond (b := decide ((k : Int) < (m : Int))) rfl (fun hb28 => ?_) (fun hb28 => ?_)
 ·have hb28p := of_decide_eq_true hb28
  refine wskip ?_
  refine wseq ?_
  refine wblock ?_
  have hdl := dnG_len es k
  refine wregion (mV (v := (.slice (some ⟨b16, 0, none⟩) (m) (m))) ((hoff26 6 rfl).trans (hF22 6)) (mV hs27 (mV (v := ves) ((hoff26 0 rfl).trans ((hF22 0).trans (hF0 0))) (mV hs27 ?_))))
  refine cL ent39 (r06_get (L := L) (M := M) (i := (k : Int)) hes hM hMB) rfl ?_
  rintro _ w29 ⟨⟨vn31, vd32, rfl, hn33, hd34, ln35, ln36⟩, he30⟩
  replace hn33 := hn33.fr hE
  replace hd34 := hd34.fr hE
  replace hE := hE.nx he30
  refine rV (r_indexAddr (i := (k : Int)) underlying37 ty44 rfl rfl oM oM) ?_
  have hrk : Rk M (fun b T => w.heap.size ≤ b ∧ T = 89) w29 (decide ((get es (k : Int)).num < 0), vn31, vd32) (get es (k : Int)) := ⟨rfl, hn33, hd34, by omega, by omega⟩
  replace hb18 := hb18.ext he30
  refine RL.runs rfl rfl (h_setK (i := (k : Int)) (q := get es (k : Int)) ty44 rfl rfl hb18 hrk oM oM) ?_
  rintro w37 ⟨ha38, hx39⟩
  replace hE := hE.nb hx39 ge_b16
  have nb_hx39 := hb18.nb
  replace hb18 := ha38
  refine RL.nil (wregion (mV hs27 (rV (r_add (k := .i64) (a := (k : Int)) (b := 1) (c := (k : Int) + 1) rfl rfl (wi64 oM)) (aS (v := (.int .i64 ((k : Int) + 1))) rfl (RL.nil ?_)))))
  replace hes := (hes.tr (Sm.ext he30)).tr (Sm.exc hx39 (fun _ _ _ _ hd => absurd hd.2 (Nat.not_lt_of_le ge_b16)))
  refine ⟨(k + 1), ⟨?_, ?_, ?_, ?_, ?_, ?_⟩, ?_⟩
  · exact (by repeat (first | exact hoff26 | refine Off.st ?_ dC _))
  · first | rfl | exact int_eq oM | exact bool_eq (by simp)
  · omega
  · rw [dnG_succ]; exact hb18
  · exact hes
  · exact hE
  (try dsimp only)
  omega
 have hb28p := of_decide_eq_false hb28
 refine wexit ?_
 refine wsr (mV (v := (.slice (some ⟨b16, 0, none⟩) (m) (m))) ((hoff26 6 rfl).trans (hF22 6)) (aS (v := (.slice (some ⟨b16, 0, none⟩) (m) (m))) rfl (aS (v := (.bool true)) rfl (RL.nil ?_))))
 refine wret ?_
 refine ⟨[(.slice (some ⟨b16, 0, none⟩) (m) (m)), (.bool true)], ⟨rfl, ⟨rfl, trivial⟩⟩, ?_⟩
 rw [show k = m by omega] at hb18
 exact ⟨⟨_, _, rfl, .inr ⟨rfl, ⟨by omega, by omega, fun i hi => cov_of hin (by rw [hg10 i]; exact hi)⟩, hb18.rc (dnG_len _ _) ge_b16 (fun _ _ h => h.1) oM⟩⟩, hE⟩
set_option maxHeartbeats 4000000 in
theorem r06_fromdense {w : World} {Dl : Nat → TypeId → Prop} {L : Nat} {vl : Value} {qs : List Rat} (hl0 : Rs L Dl w vl qs) {M : Nat} (hM : (qs.length + 1) * (L + 3) + 3 ≤ M) (hMB : M ≤ 8589934000) (hnl : qs.length ≤ 1048575) :
    Calls Tryz.prog 23 #[vl] w fun e w' => ∃ v, e = .returned v ∧ (∃ rs, Oe M (fun b T => w.heap.size ≤ b ∧ T = 89) w' w.heap.size 55 v rs ∧ Asc rs ∧ NonZ rs ∧ ∀ i, get rs i = get (ixL qs qs.length) i) ∧ Ext w w' := by
 have hE : Below w.heap.size w w := Below.refl _ _
 have hl := hl0.old
 clear hl0
 have hlo : w.heap.size ≤ w.heap.size := Nat.le_refl _
 refine calls_of (n := 22) (rs := [.tmp 2]) func23 rfl rfl rfl bL ?_
 refine wset fun F0 hF0 => ?_
 refine wsr (aS (v := (.slice none (0) (0))) rfl (RL.nil (wsr (aS (v := (.slice none (0) (0))) rfl (RL.nil (wseq (wsr (aS (v := (.int .i64 0)) rfl (RL.nil ?_)))))))))
 refine wblock ?_
 refine wset fun F1 hF2 => ?_
 refine wloop (σ := Nat × Value) (fun (s : Nat × Value) fl wl => match s with | (k, vr) => Off (rg 3 17 []) F1 fl ∧ fl 4 = (.int .i64 (k : Int)) ∧ fl 3 = vr ∧ (k ≤ qs.length) ∧ (Oz L (fun b T => Dl b T ∧ b < w.heap.size) wl w.heap.size 55 vr (ixL qs k)) ∧ (Rs L (fun b T => Dl b T ∧ b < w.heap.size) wl vl qs) ∧ (Below w.heap.size w wl)) (fun (s : Nat × Value) => match s with | (k, vr) => qs.length - k) (0, (.slice none 0 0)) ?_ ?_
 ·exact ⟨Off.refl _ _, (hF2 4).trans (rfl), (hF2 3).trans (rfl), Nat.zero_le _, Oz.nil, hl, hE⟩
 clear hl hE
 rintro ⟨k, vr⟩ f3 w4 ⟨hoff5, hs6, hs7, hk, hR, hl, hE⟩
 refine wseq (wsr (mV hs6 (mV (v := vl) ((hoff5 0 rfl).trans ((hF2 0).trans (hF0 0))) ?_)))
 obtain ⟨A8, c9, hv10, hc11, hc12⟩ := hl.len
 refine rV (r_len underlying37 hv10) (rV (r_lss (k := .i64) (a := (k : Int)) (b := ((qs.length : Nat) : Int)) rfl rfl) (RL.nil ?_))
 refine wcond (b := decide ((k : Int) < ((qs.length : Nat) : Int))) rfl (fun hb13 => ?_) (fun hb13 => ?_)
 ·have hb13p := of_decide_eq_true hb13
  refine wskip ?_
  refine wseq ?_
  refine wblock ?_
  have hskl := ixL_len qs k
  refine wregion (mV hs7 (mV hs6 (mV (v := vl) ((hoff5 0 rfl).trans ((hF2 0).trans (hF0 0))) (mV hs6 ?_))))
  obtain ⟨b14, o15, c16, s19, vn20, vd21, x22, d23, hv17, hc18, hx24, lm25, ln26, hd27, lm28, ln29, eq30⟩ := hl.ix (i := (k : Int)) (k) oM oM
  refine rV (r_indexAddr (i := (k : Int)) underlying37 ty44 hv17 rfl oM oM) (rV (r_loada (cs := [(.bool s19), vn20, vd21]) underlying44 ag44 ty44 rfl hc18) (rV (r_build (vl := [(0, (.int .i64 (k : Int))), (1, (.agg #[(.bool s19), vn20, vd21]))]) (cs := [(.int .i64 (k : Int)), (.bool s19), vn20, vd21]) underlying55 ty55 rfl (pl55 underlying55) rfl) ?_))
  refine rU (h_lit (vl := [(0, (.agg #[(.int .i64 (k : Int)), (.bool s19), vn20, vd21]))]) (cs := [(.int .i64 (k : Int)), (.bool s19), vn20, vd21]) underlying22 ty55 rfl dC (by first | (simp [Instr.fill, Value.cells]; done) | rfl | kernel_rfl)) ?_
  rintro _ w31 ⟨b32, rfl, hs35, hb34, he33⟩
  have ge_b32 := hE.ge hs35
  have on_vr_b32 : vr.ownBlock ≠ some b32 := fun h => absurd (hR.lt _ h) (by rw [hs35]; exact Nat.lt_irrefl _)
  replace hE := hE.nx he33
  replace hR := hR.ext he33
  replace hx24 := hx24.tr (Sm.ext he33)
  replace hd27 := hd27.tr (Sm.ext he33)
  refine rU (h_appendZ (v1 := vr) (v2 := (.slice (some ⟨b32, 0, none⟩) (1) (1))) (q := qs.getD (k) default) underlying22 ty55 rfl rfl rfl hR (hb34.sc (D := fun _ _ => True) trivial rfl dC) (Rz.of (L := L) hx24 lm25 oM hd27 lm28 oM (show ratOf s19 (val x22) (val d23) = qs.getD (k) default from eq30)) (fun b hb hd => absurd hd.2 (Nat.not_lt_of_le hb)) (by simp only [maxLen]; omega) oM hE.size) ?_
  rintro v37 w36 ⟨ho38, hg39⟩
  replace hE := hR.gbe hg39 hE hlo hE.size
  refine aS (v := v37) rfl (RL.nil (wregion (mV hs6 (rV (r_add (k := .i64) (a := (k : Int)) (b := 1) (c := (k : Int) + 1) rfl rfl (wi64 oM)) (aS (v := (.int .i64 ((k : Int) + 1))) rfl (RL.nil ?_))))))
  replace hl := (hl.tr (Sm.ext he33)).tr (hR.gsm hg39 (fun b hb hd => absurd hd.2 (Nat.not_lt_of_le (Nat.le_trans hlo hb))))
  refine ⟨(k + 1, v37), ⟨?_, ?_, ?_, ?_, ?_, ?_, ?_⟩, ?_⟩
  · exact (by repeat (first | exact hoff5 | refine Off.st ?_ dC _))
  · first | rfl | exact int_eq oM | exact bool_eq (by simp)
  · first | rfl | exact int_eq oM | exact bool_eq (by simp)
  · omega
  · rw [ixL_succ]; exact ho38
  · exact hl
  · exact hE
  (try dsimp only)
  omega
 have hb13p := of_decide_eq_false hb13
 refine wexit ?_
 refine wseq ?_
 have hRr := hR.rd (D' := DT) (fun _ _ => trivial) (fun _ _ _ => trivial)
 rw [show k = qs.length by omega] at hRr
 have hil := ixL_len qs qs.length
 refine wregion (mV hs7 ?_)
 refine cL ent31 (r06_norm (es := (ixL qs qs.length)) (L := L) (M := M) hRr (by rw [hil]; exact hM) hMB oM) rfl ?_
 rintro vn42 w40 ⟨⟨rs43, ho44, ha45, hz46, hg47, hl48⟩, he41⟩
 replace ho44 := Oe.fr (D' := (fun b T => w.heap.size ≤ b ∧ T = 89)) (lo' := w.heap.size) ho44 hE.size (fun _ _ h => ⟨Nat.le_trans hE.size h.1, h.2⟩)
 replace hE := hE.nx he41
 refine aS (v := vn42) rfl (RL.nil ?_)
 refine wret ?_
 refine ⟨[vn42], ⟨rfl, trivial⟩, ?_⟩
 exact ⟨⟨rs43, ho44, ha45, hz46, hg47⟩, hE⟩
end Go.Proofs.YtelbjmhhbeijkaaGreat
namespace Go.Proofs.YtelbjmhhbeijkaaGreat
open Go.Vg Go.RowKit _root_.Go.Proofs.Tryz
set_option linter.unusedVariables false
open Go.Vm
set_option maxHeartbeats 4000000 in
theorem l_denselaw {w : World} {Dl : Nat → TypeId → Prop} {vl : Value} {qs : List Rat} (hl0 : Rs 1048576 Dl w vl qs)  {Da : Nat → TypeId → Prop} {va : Value} {a : List Ent'} (ha : Es 1048576 Da w va a) {n f : Int} (hf : 0 ≤ f ∧ f < 256) :
    Calls Tryz.prog 5 #[vl, va, (.int .i64 (n)), (.int .u8 (f))] w fun e w' => ∃ v, e = .returned v ∧ v = .bool true ∧ Ext w w' := by
 have hE : Below w.heap.size w w := Below.refl _ _
 have hl := hl0.old
 clear hl0
 refine calls_of (n := 84) (rs := [.tmp 8]) func5 rfl rfl rfl bL ?_
 refine wset fun F0 hF0 => ?_
 refine wsr (aS (v := (.bool false)) rfl (RL.nil (wsr (mV (v := vl) (hF0 0) ?_))))
 refine cL (vl := [vl, (.int .i64 60)]) ent19 (h_firstr (n := 60) hl dC) rfl ?_
 rintro vf3 w1 ⟨hr4, he2⟩
 replace hE := hE.nx he2
 have hl60 : (qs.take 60).length ≤ 60 := by rw [List.length_take]; omega
 refine mV (v := va) (hF0 1) ?_
 replace ha := ha.tr (Sm.ext he2)
 refine cL ent6 (l_short (L := 1048576) ha) rfl ?_
 rintro vs7 w5 ⟨hr8, he6⟩
 replace hE := hE.nx he6
 have hsl9 := shL_len a
 refine aS (v := vf3) rfl (aS (v := vs7) rfl (RL.nil (wseq (wsr (mV (v := (.int .i64 (n))) (hF0 2) (mV (v := (.int .u8 (f))) (hF0 3) (rV (r_rem (k := .u8) (a := f) (b := 12) (c := f % 12) rfl rfl dC (tmod_emod hf.1)) (rV (r_conv (k := .i64) (a := f % 12) (c := f % 12) underlying5 underlying3 rfl (wi64 oM)) ?_))))))))
 refine rU (h_lit (vl := [(0, (.int .i64 (n))), (1, (.int .i64 (f % 12)))]) (cs := [(.int .i64 (n)), (.int .i64 (f % 12))]) underlying23 ty3 rfl dC (by first | (simp [Instr.fill, Value.cells]; done) | rfl | kernel_rfl)) ?_
 rintro _ w10 ⟨b11, rfl, hs14, hb13, he12⟩
 have ge_b11 := hE.ge hs14
 replace hE := hE.nx he12
 refine rV (r_len underlying23 rfl) (mV (v := (.int .i64 0)) rfl (RL.nil ?_))
 refine wblock ?_
 refine wset fun F15 hF16 => ?_
 refine wloop (σ := Nat) (fun (j : Nat) fl wl => Off (8 :: (rg 10 5 (rg 27 32 []))) F15 fl ∧ fl 27 = (.int .i64 (j : Int)) ∧ (j ≤ 2) ∧ (Rs 1048576 (fun b T => Dl b T ∧ b < w.heap.size) wl vl qs) ∧ (Below w.heap.size w wl) ∧ (Rs 1048576 (fun b T => Dl b T ∧ b < w.heap.size) wl vf3 (qs.take 60)) ∧ (Es 1048576 (fun b T => (Da b T ∧ b < w1.heap.size) ∨ w1.heap.size ≤ b) wl vs7 (shL a)) ∧ (Bk wl b11 3 [(.int .i64 (n)), (.int .i64 (f % 12))])) (fun (j : Nat) => 2 - j) (0) ?_ ?_
 ·have hm17 := Ext.trans he2 (Ext.trans he6 he12)
  replace hl := hl.tr (Sm.ext hm17)
  replace hr4 := hr4.tr (Sm.ext (Ext.trans he6 he12))
  replace hr8 := hr8.tr (Sm.ext he12)
  exact ⟨Off.refl _ _, (hF16 27).trans (rfl), Nat.zero_le _, hl, hE, hr4, hr8, hb13⟩
 clear hl ha hE hr4 hr8 hb13
 rintro j f18 w19 ⟨hoff20, hs21, hj, hl, hE, hr4, hr8, hb13⟩
 refine wsr (rV (r_lss (k := .i64) (a := (j : Int)) (b := ((2 : Nat) : Int)) hs21 ((hoff20 26 rfl).trans (hF16 26))) (RL.nil (wseq ?_)))
 refine wcond (b := decide ((j : Int) < ((2 : Nat) : Int))) rfl (fun hb22 => ?_) (fun hb22 => ?_)
 ·have hb22p := of_decide_eq_true hb22
  refine wskip ?_
  refine wseq ?_
  refine wblock ?_
  refine wseq ?_
  obtain ⟨kq, hcq⟩ : ∃ kq : Int, w19.cell? ⟨b11, 0 + (j : Int).toNat * 1, none⟩ = some (.int .i64 kq) := by rcases (show j = 0 ∨ j = 1 by omega) with rfl | rfl <;> first | exact ⟨_, hb13.cell (j := 0) rfl⟩ | exact ⟨_, hb13.cell (j := 1) rfl⟩
  refine wregion (rV (r_indexAddr (i := (j : Int)) underlying23 ty3 ((hoff20 25 rfl).trans (hF16 25)) hs21 oM oM) (rV (r_load (v := (.int .i64 (kq))) underlying3 ag3 rfl hcq) (aS (v := (.int .i64 (kq))) rfl (RL.nil (wseq ?_)))))
  refine wset fun F23 hF24 => ?_
  refine wcut (fun fl wl => ∃ t : Bool, Off [31, 32, 33, 34, 35, 36] F23 fl ∧ fl 36 = (.bool t) ∧ (Rs 1048576 (fun b T => Dl b T ∧ b < w.heap.size) wl vl qs) ∧ (Below w.heap.size w wl) ∧ (Rs 1048576 (fun b T => Dl b T ∧ b < w.heap.size) wl vf3 (qs.take 60)) ∧ (Es 1048576 (fun b T => (Da b T ∧ b < w1.heap.size) ∨ w1.heap.size ≤ b) wl vs7 (shL a)) ∧ (Bk wl b11 3 [(.int .i64 (n)), (.int .i64 (f % 12))])) ?_ ?_
  ·have hoff25 := Off.refl [31, 32, 33, 34, 35, 36] F23
   refine wregion (mV (v := (.int .i64 (kq))) (hF24 10) (rV (r_gtr (k := .i64) (a := kq) (b := 1000) rfl rfl) (mV (v := (.bool (decide (1000 < kq)))) rfl ?_)))
   rcases Bool.eq_false_or_eq_true (decide (1000 < kq)) with hb26 | hb26
   ·have hb26p := of_decide_eq_true hb26
    refine RL.gval rfl rfl (bool_eq hb26) rfl dC (r_move_as (v := (.int .i64 (kq))) (hF24 10)) ?_
    refine RL.gval rfl rfl (bool_eq hb26) rfl dC (r_leq (k := .i64) (a := kq) (b := 16384) rfl rfl) ?_
    refine rV (r_pick_t (v := (.bool (decide (kq ≤ 16384)))) (bool_eq hb26) rfl) (RL.nil ?_)
    refine ⟨decide (kq ≤ 16384), ?_, ?_, ?_, ?_, ?_, ?_, ?_⟩
    · exact (by repeat (first | exact hoff25 | refine Off.st ?_ dC _ | refine Off.via hoff20 dC ?_ | refine Off.eq hF16 ?_))
    · rfl
    · exact hl
    · exact hE
    · exact hr4
    · exact hr8
    exact hb13
   have hb26p := of_decide_eq_false hb26
   refine RL.gno rfl rfl (bool_eq hb26) rfl dC ?_
   refine RL.gno rfl rfl (bool_eq hb26) rfl dC ?_
   refine rV (r_pick_f (v := (.bool false)) (bool_eq hb26) rfl) (RL.nil ?_)
   refine ⟨false, ?_, ?_, ?_, ?_, ?_, ?_, ?_⟩
   · exact (by repeat (first | exact hoff25 | refine Off.st ?_ dC _ | refine Off.via hoff20 dC ?_ | refine Off.eq hF16 ?_))
   · rfl
   · exact hl
   · exact hE
   · exact hr4
   · exact hr8
   exact hb13
  clear hl hE hr4 hr8 hb13
  rintro f27 w28 ⟨t, hoff29, hs30, hl, hE, hr4, hr8, hb13⟩
  refine wcond (b := t) hs30 (fun hb31 => ?_) (fun hb31 => ?_)
  ·have hb31p := hb31
   refine wexit ?_
   refine wregion (rV (r_add (k := .i64) (a := (j : Int)) (b := 1) (c := (j : Int) + 1) ((hoff29 27 rfl).trans ((hF24 27).trans hs21)) rfl (wi64 oM)) (mV (v := (.int .i64 ((j : Int) + 1))) rfl (RL.nil ?_)))
   refine ⟨(j + 1), ⟨?_, ?_, ?_, ?_, ?_, ?_, ?_, ?_⟩, ?_⟩
   · exact (by repeat (first | exact hoff20 | refine Off.st ?_ dC _ | refine Off.via hoff29 dC ?_ | refine Off.eq hF24 ?_))
   · first | rfl | exact int_eq oM | exact bool_eq (by simp)
   · omega
   · exact hl
   · exact hE
   · exact hr4
   · exact hr8
   · exact hb13
   (try dsimp only)
   omega
  have hb31p := hb31
  refine wskip ?_
  refine wsr (mV (v := vs7) ((hoff29 1 rfl).trans ((hF24 1).trans ((hoff20 1 rfl).trans (hF16 1)))) (mV (v := (.int .i64 (kq))) ((hoff29 10 rfl).trans (hF24 10)) ?_))
  refine cL (vl := [vs7, (.int .i64 (kq))]) ent20 (v_dense (x := (shL a)) (L := 1048576) (M := 42991739) (n := kq) hr8 (.inr (fit_le (m := 40) oM dC)) oM dC) rfl ?_
  rintro vt34 w32 ⟨⟨vr35, ok36, rfl, hdis37⟩, he33⟩
  replace hE := hE.nx he33
  refine mV (v := (.tuple #[vr35, (.bool ok36)])) rfl (rV (r_extract (v := vr35) rfl rfl) (rV (r_extract (v := (.bool ok36)) rfl rfl) (aS (v := vr35) rfl (aS (v := (.bool ok36)) rfl (RL.nil (wsr (mV (v := vs7) ((hoff29 1 rfl).trans ((hF24 1).trans ((hoff20 1 rfl).trans (hF16 1)))) (mV (v := (.int .i64 (kq))) ((hoff29 10 rfl).trans (hF24 10)) ?_))))))))
  replace hr8 := hr8.tr (Sm.ext he33)
  refine cL (vl := [vs7, (.int .i64 (kq))]) ent21 (r06_dense (L := 1048576) (M := 42991742) (n := kq) hr8 oM dC oM) rfl ?_
  rintro vt40 w38 ⟨⟨vr41, ok42, rfl, hdis43⟩, he39⟩
  replace hE := hE.nx he39
  obtain ⟨hok47, ys44, hp45, hp46⟩ := rc_same hdis37 hdis43 he39 dC
  subst hok47
  replace hp45 := hp45.mono (D' := DT) (fun _ _ _ => trivial)
  replace hp46 := hp46.mono (D' := DT) (fun _ _ _ => trivial)
  refine mV (v := (.tuple #[vr41, (.bool ok36)])) rfl (rV (r_extract (v := vr41) rfl rfl) (rV (r_extract (v := (.bool ok36)) rfl rfl) (aS (v := vr41) rfl (aS (v := (.bool ok36)) rfl (RL.nil (wsr (mV (v := (.bool ok36)) rfl (mV (v := (.bool ok36)) rfl (rV (r_neqb underlying4 rfl rfl) (mV (v := (.bool (ok36 != ok36))) rfl ?_))))))))))
  rcases Bool.eq_false_or_eq_true (ok36 != ok36) with hb48 | hb48
  ·have hb48p := hb48
   exact absurd hb48 (by simp)
  have hb48p := hb48
  refine RL.gval rfl rfl (bool_eq hb48) rfl dC (r_move_as (v := vr35) rfl) ?_
  refine RL.gval rfl rfl (bool_eq hb48) rfl dC (r_move_as (v := vr41) rfl) ?_
  refine RL.gcall rfl rfl (bool_eq hb48) rfl dC (r_call (vl := [vr35, vr41]) ent22 rfl) (r03_same (L := 42991742) (hp45.wide dC) (hp46.wide dC) dC) ?_
  rintro _ w49 ⟨rfl, he50⟩
  replace hE := hE.nx he50
  refine RL.gval rfl rfl (bool_eq hb48) rfl dC (r_not rfl) ?_
  refine rV (r_pick_f (v := (.bool false)) (bool_eq hb48) rfl) (RL.nil ?_)
  refine wcond_f rfl ?_
  refine wskip ?_
  refine wregion (rV (r_add (k := .i64) (a := (j : Int)) (b := 1) (c := (j : Int) + 1) ((hoff29 27 rfl).trans ((hF24 27).trans hs21)) rfl (wi64 oM)) (mV (v := (.int .i64 ((j : Int) + 1))) rfl (RL.nil ?_)))
  have hm51 := Ext.trans he33 (Ext.trans he39 he50)
  replace hl := hl.tr (Sm.ext hm51)
  replace hr4 := hr4.tr (Sm.ext hm51)
  replace hr8 := hr8.tr (Sm.ext (Ext.trans he39 he50))
  replace hb13 := hb13.ext hm51
  refine ⟨(j + 1), ⟨?_, ?_, ?_, ?_, ?_, ?_, ?_, ?_⟩, ?_⟩
  · exact (by repeat (first | exact hoff20 | refine Off.st ?_ dC _ | refine Off.via hoff29 dC ?_ | refine Off.eq hF24 ?_))
  · first | rfl | exact int_eq oM | exact bool_eq (by simp)
  · omega
  · exact hl
  · exact hE
  · exact hr4
  · exact hr8
  · exact hb13
  (try dsimp only)
  omega
 have hb22p := of_decide_eq_false hb22
 refine wexit ?_
 refine wsr (mV (v := vf3) ((hoff20 0 rfl).trans (hF16 0)) ?_)
 refine cL (vl := [vf3]) ent15 (v_fromdense (L := 1048576) hr4 dC oM) rfl ?_
 rintro vo54 w52 ⟨ho55, he53⟩
 replace ho55 := Oe.fr (D' := (fun b T => w.heap.size ≤ b ∧ T = 89)) (lo' := w.heap.size) ho55 hE.size (fun _ _ h => ⟨Nat.le_trans hE.size h.1, h.2⟩)
 replace hE := hE.nx he53
 refine mV (v := vf3) ((hoff20 0 rfl).trans (hF16 0)) ?_
 obtain ⟨A56, c57, hv58, hc59, hc60⟩ := hr4.len
 refine rV (r_len underlying37 hv58) ?_
 refine cL (vl := [vo54, (.int .i64 ((((qs.take 60).length : Nat) : Int)))]) ent20 (v_dense (x := fdK (qs.take 60) (qs.take 60).length) (L := 1048577) (M := 1048577) (n := (((qs.take 60).length : Nat) : Int)) (ho55.rd (D' := (fun b _ => w.heap.size ≤ b)) (fun _ h => h) (fun _ _ h => h.1)) (.inl ⟨fdK_asc _ _, Nat.le_refl _⟩) (Nat.le_trans (fdK_len _ _) oM) dC) rfl ?_
 rintro vt63 w61 ⟨⟨vr64, ok65, rfl, hdis66⟩, he62⟩
 obtain ⟨rfl, hpp67, hr68⟩ := hdis66.resolve_left (fun h => h.2.2 ⟨by omega, by omega, fun i hi => cov_of (fdK_lt _ _) hi⟩)
 rw [Int.toNat_natCast, fdK_dense] at hr68
 replace hr68 := hr68.mono (D' := DT) (fun _ _ _ => trivial)
 replace hE := hE.nx he62
 refine mV (v := (.tuple #[vr64, (.bool true)])) rfl (rV (r_extract (v := vr64) rfl rfl) (rV (r_extract (v := (.bool true)) rfl rfl) (aS (v := vr64) rfl (aS (v := (.bool true)) rfl (RL.nil (wsr ?_))))))
 refine cL ent14 (l_awake) rfl ?_
 rintro _ w69 ⟨rfl, he70⟩
 replace hE := hE.nx he70
 refine mV (v := (.bool true)) rfl ?_
 refine RL.gval rfl rfl rfl rfl dC (r_move_as (v := vf3) ((hoff20 0 rfl).trans (hF16 0))) ?_
 have hm75 := Ext.trans he53 (Ext.trans he62 he70)
 replace hr4 := hr4.tr (Sm.ext hm75)
 refine RL.gcall rfl rfl rfl rfl dC (r_call (vl := [vf3]) ent15 rfl) (v_fromdense (L := 1048576) hr4 dC oM) ?_
 rintro vo73 w71 ⟨ho74, he72⟩
 replace ho74 := Oe.fr (D' := (fun b T => w.heap.size ≤ b ∧ T = 89)) (lo' := w.heap.size) ho74 hE.size (fun _ _ h => ⟨Nat.le_trans hE.size h.1, h.2⟩)
 replace hE := hE.nx he72
 refine RL.gval rfl rfl rfl rfl dC (r_move_as (v := vf3) ((hoff20 0 rfl).trans (hF16 0))) ?_
 replace hr4 := hr4.tr (Sm.ext he72)
 refine RL.gcall rfl rfl rfl rfl dC (r_call (vl := [vf3]) ent23 rfl) (r06_fromdense (L := 1048576) (M := 63963322) hr4 oM dC oM) ?_
 rintro vo78 w76 ⟨⟨rs80, ho79, ha81, hz82, hg83⟩, he77⟩
 have hs84 : rs80 = (fdK (qs.take 60) (qs.take 60).length) := canon_ext _ _ ha81 (fdK_asc _ _) hz82 (fdK_nz _ _) (fun i => by rw [hg83 i, ixL_get])
 rw [hs84] at ho79
 replace ho79 := Oe.fr (D' := (fun b T => w.heap.size ≤ b ∧ T = 89)) (lo' := w.heap.size) ho79 hE.size (fun _ _ h => ⟨Nat.le_trans hE.size h.1, h.2⟩)
 replace hE := hE.nx he77
 replace ho74 := ho74.ext he77
 refine RL.gcall rfl rfl rfl rfl dC (r_call (vl := [vo73, vo78]) ent13 rfl) (r06_ident (L := 63963322) (es := (fdK (qs.take 60) (qs.take 60).length)) ((ho74.ec (D' := (fun b _ => w.heap.size ≤ b)) (fun _ h => h) (fun _ _ h => h.1)).wide oM) ((ho79.ec (D' := (fun b _ => w.heap.size ≤ b)) (fun _ h => h) (fun _ _ h => h.1)).wide oM) oM) ?_
 rintro _ w85 ⟨rfl, he86⟩
 replace hE := hE.nx he86
 refine rV (r_pick_t (v := (.bool true)) rfl rfl) (mV (v := (.bool true)) rfl ?_)
 refine RL.gval rfl rfl rfl rfl dC (r_move_as (v := (.bool true)) rfl) ?_
 refine rV (r_pick_t (v := (.bool true)) rfl rfl) (mV (v := (.bool true)) rfl ?_)
 refine RL.gval rfl rfl rfl rfl dC (r_move_as (v := vr64) rfl) ?_
 refine RL.gval rfl rfl rfl rfl dC (r_move_as (v := vf3) ((hoff20 0 rfl).trans (hF16 0))) ?_
 replace hr4 := hr4.tr (Sm.ext (Ext.trans he77 he86))
 refine RL.gcall rfl rfl rfl rfl dC (r_call (vl := [vf3]) ent24 rfl) (r03_canon (L := 1048576) hr4 dC oM) ?_
 rintro vo89 w87 ⟨ho90, he88⟩
 replace ho90 := ho90.mono (D' := DT) (fun _ _ _ => trivial)
 replace hE := hE.nx he88
 have hm93 := Ext.trans he70 (Ext.trans he72 (Ext.trans he77 (Ext.trans he86 he88)))
 replace hr68 := hr68.tr (Sm.ext hm93)
 refine RL.gcall rfl rfl rfl rfl dC (r_call (vl := [vr64, vo89]) ent22 rfl) (r03_same (L := 42991742) (hr68.wide dC) (ho90.wide dC) dC) ?_
 rintro _ w91 ⟨rfl, he92⟩
 replace hE := hE.nx he92
 refine rV (r_pick_t (v := (.bool true)) rfl rfl) (aS (v := (.bool true)) rfl (RL.nil ?_))
 refine wret ?_
 refine ⟨[(.bool true)], ⟨rfl, trivial⟩, ?_⟩
 exact ⟨rfl, hE⟩
end Go.Proofs.YtelbjmhhbeijkaaGreat
namespace Go.Proofs.YtelbjmhhbeijkaaGreat
open Go.Vg Go.RowKit Go.Vm Go.ChangeShapes Go.WideShapes _root_.Go.Proofs.Tryz
namespace bulks
theorem one_le {H : Type} (d : DataW H) : 1 ≤ Rows.uptoBulk d := by
  cases d with
  | lit l => cases l <;> simp [Rows.uptoBulk]
  | nil => simp [Rows.uptoBulk]
  | ptr d => simp [Rows.uptoBulk]
  | slice elems spare => simp [Rows.uptoBulk]
  | agg parts => simp [Rows.uptoBulk]
  | iface t d => simp [Rows.uptoBulk]
  | map entries => simp [Rows.uptoBulk]
  | held h => simp [Rows.uptoBulk]
theorem part_le {H : Type} {d : DataW H} {l : List (DataW H)} (h : d ∈ l) : Rows.uptoBulk d ≤ Rows.uptoBulkAll l := by
  induction l with
  | nil => cases h
  | cons x r ih =>
    simp only [Rows.uptoBulkAll]
    cases List.mem_cons.1 h with
    | inl e => subst e; omega
    | inr e => have := ih e; omega
theorem length_le {H : Type} (l : List (DataW H)) : l.length ≤ Rows.uptoBulkAll l := by
  induction l with
  | nil => simp [Rows.uptoBulkAll]
  | cons x r ih => have := one_le x; simp only [Rows.uptoBulkAll, List.length_cons]; omega
end bulks
section
variable {H : Type} {enc : TypeId × Value → H} {w : World} {base : Nat} {spare : Nat → Bool} {held : Bool}
theorem flat_one (xs : List Nat) : (xs.map fun n : Nat => [(.int .u32 (n : Int) : Value)]).flatten = xs.map (gN .u32) := by
  induction xs with
  | nil => rfl
  | cons a l ih => rw [List.map_cons, List.flatten_cons, ih]; rfl
theorem sg_of_cells {x : Addr} {len cap : Nat} {xs : List Nat} (hl : xs.length = len) (hlc : len ≤ cap) (hm : cap ≤ maxLen) (hc : ∀ i, i < len → w.cell? (x.add i) = some (.int .u32 ((xs.getD i default : Nat) : Int))) : Sg (gN .u32) DT w (.slice (some x) len cap) xs := by
  have h := Ss.of_cells (c := fun n : Nat => [(.int .u32 (n : Int) : Value)]) (size := 1) (by decide) (fun _ => rfl) (w := w) (x := x) hl hlc hm (fun i hi j u hj => by
    match j, hj with
    | 0, hj =>
      have e : u = .int .u32 ((xs.getD i default : Nat) : Int) := by simpa using hj.symm
      rw [e]
      have := hc i hi
      simpa using this
    | j + 1, hj => simp at hj)
  obtain ⟨_, h2⟩ := h
  rw [flat_one] at h2
  exact h2
theorem open_limbs {fuel : Nat} {v : Value} {x : DataW H × List MemPlace} (h : DataW.trod enc Tryz.prog w base spare held fuel 40 [v] = some x) : ∃ (A : SV) (xs : List Nat), v = sv A ∧ Sg (gN .u32) DT w (sv A) xs ∧ Lm xs ∧ xs.length ≤ Rows.uptoBulk x.1 := by
  rcases Go.Deep.open_slice underlying40 h with ⟨hcs, _⟩ | ⟨a, len, cap, m, n, D, Pl, hcs, hb, hl, hm, hmm, rfl, hx⟩
  · injection hcs with hcs
    exact ⟨(none, 0, 0), [], hcs, Sg.nil, Lm.nil, Nat.zero_le _⟩
  injection hcs with hcs
  have hlm : len ≤ m := by rw [hmm]; split <;> omega
  have each : ∀ i, i < len → ∃ z : Nat, w.cell? (a.add i) = some (.int .u32 (z : Int)) ∧ z < 4294967296 := fun i hi => by
    obtain ⟨cs', h1, h2⟩ := hx i (by omega)
    have ce : Tryz.prog.cellsOf 89 = 1 := by kernel_rfl
    rw [ce] at h1
    obtain ⟨_, hlen, hcell⟩ := World.cells?_some h1
    obtain ⟨z, rfl, _, hwf⟩ := DataW.trod_int underlying89 h2
    have e0 := hcell 0 (by omega)
    rw [Go.Deep.add_add] at e0
    have hr : 0 ≤ z ∧ z < 4294967296 := by simp [Lit.wf, IntKind.min, IntKind.max, IntKind.signed, IntKind.bits] at hwf; omega
    refine ⟨z.toNat, ?_, by omega⟩
    rw [show ((z.toNat : Nat) : Int) = z by omega]
    simpa using e0
  obtain ⟨q, hq⟩ := Go.Deep.choose_lt each
  refine ⟨(some a, len, cap), byR q len, hcs, sg_of_cells (length_byR ..) hl hm (fun i hi => by rw [byR_at hi]; exact (hq i hi).1), fun z hz => ?_, ?_⟩
  · obtain ⟨i, hi, rfl⟩ := List.getElem_of_mem hz
    rw [length_byR] at hi
    have := (hq i hi).2
    have e := byR_at (f := q) hi
    simp only [List.getD_eq_getElem?_getD] at e
    rw [List.getElem?_eq_getElem (by rw [length_byR]; exact hi), Option.getD_some] at e
    rw [e]; exact this
  have := bulks.length_le ((List.range len).map D)
  simp only [Rows.uptoBulk]
  rw [length_byR]
  simp only [List.length_map, List.length_range] at this
  omega
theorem list4 {l : List Value} (h : l.length = 4) : ∃ a b c d, l = [a, b, c, d] := by
  match l, h with
  | [a, b, c, d], _ => exact ⟨a, b, c, d, rfl⟩
theorem list2' {α : Type} {l : List α} (h : l.length = 2) : ∃ a b, l = [a, b] := by
  match l, h with
  | [a, b], _ => exact ⟨a, b, rfl⟩
theorem open_rat {fuel : Nat} {c1 c2 c3 : Value} {x : DataW H × List MemPlace} (h : DataW.trod enc Tryz.prog w base spare held fuel 44 [c1, c2, c3] = some x) :
    ∃ (s : Bool) (A B : SV), c1 = .bool s ∧ c2 = sv A ∧ c3 = sv B ∧ ∃ q, Rz (Rows.uptoBulk x.1) DT w (s, sv A, sv B) q := by
  obtain ⟨xs, n, _, hxy, _, hxl, hf⟩ := DataW.trod_struct underlying44 h
  have g0 := hf 0 _ rfl
  have g1 := hf 1 _ rfl
  have ci : Tryz.prog.cellsOf 42 = 2 := by kernel_rfl
  have cs : Tryz.prog.cellsOf 40 = 1 := by kernel_rfl
  have cb : Tryz.prog.cellsOf 4 = 1 := by kernel_rfl
  obtain ⟨y0, y1, rfl⟩ := list2' hxl
  simp [ci, cs] at g0 g1
  obtain ⟨zs, n2, _, hzy, _, hzl, hz⟩ := DataW.trod_struct underlying42 g0
  have k0 := hz 0 _ rfl
  have k1 := hz 1 _ rfl
  obtain ⟨z0, z1, rfl⟩ := list2' hzl
  simp [cb, cs] at k0 k1
  obtain ⟨s, e1, _⟩ := DataW.trod_bool underlying4 k0
  obtain ⟨A, xa, e2, ha, la, ba⟩ := open_limbs k1
  obtain ⟨B, xb, e3, hb, lb, bb⟩ := open_limbs g1
  have e1' : c1 = .bool s := by simpa using e1
  refine ⟨s, A, B, e1', e2, e3, _, xa, xb, ha, la, ?_, hb, lb, ?_, rfl⟩
  · rw [hxy]
    simp only [Rows.uptoBulk, List.map_cons, List.map_nil, Rows.uptoBulkAll]
    rw [hzy]
    simp only [Rows.uptoBulk, List.map_cons, List.map_nil, Rows.uptoBulkAll]
    omega
  rw [hxy]
  simp only [Rows.uptoBulk, List.map_cons, List.map_nil, Rows.uptoBulkAll]
  omega
theorem open_entries {fuel : Nat} {a0 : Option Addr} {len0 cap0 : Nat} {x : DataW H × List MemPlace} (h : DataW.trod enc Tryz.prog w base spare held fuel 22 [.slice a0 len0 cap0] = some x) (hk : Rows.uptoBulk x.1 ≤ 1048576) :
    ∃ es, Es 1048576 DT w (.slice a0 len0 cap0) es ∧ es.length ≤ 1048576 := by
  rcases Go.Deep.open_slice underlying22 h with ⟨hcs, _⟩ | ⟨a, len, cap, m, n, D, Pl, hcs, hb, hl, hm, hmm, rfl, hx⟩
  · injection hcs with hcs
    rw [hcs]
    exact ⟨[], Es.nil, Nat.zero_le _⟩
  injection hcs with hcs
  injection hcs with h1 h2 h3
  subst h1 h2 h3
  have hlm : len0 ≤ m := by rw [hmm]; split <;> omega
  have hbulk : Rows.uptoBulkAll ((List.range len0).map D) ≤ 1048576 := by simp only [Rows.uptoBulk] at hk; omega
  have each : ∀ i, i < len0 → ∃ p : EC × Rat, (∀ j u, (entC p.1)[j]? = some u → w.cell? (a.add (i * 4 + j)) = some u) ∧ Rz 1048576 DT w (rcOf p.1) p.2 := fun i hi => by
    obtain ⟨cs', h1, h2⟩ := hx i (by omega)
    have ce : Tryz.prog.cellsOf 55 = 4 := by kernel_rfl
    have ci : Tryz.prog.cellsOf 3 = 1 := by kernel_rfl
    have cr : Tryz.prog.cellsOf 44 = 3 := by kernel_rfl
    rw [ce] at h1
    obtain ⟨_, hlen, hcell⟩ := World.cells?_some h1
    obtain ⟨c0, c1, c2, c3, rfl⟩ := list4 hlen
    obtain ⟨xs, n2, _, hxy, _, hxl, hf⟩ := DataW.trod_struct underlying55 h2
    have g0 := hf 0 _ rfl
    have g1 := hf 1 _ rfl
    obtain ⟨y0, y1, rfl⟩ := list2' hxl
    simp [ci, cr] at g0 g1
    obtain ⟨z, e0, _, _⟩ := DataW.trod_int underlying3 g0
    obtain ⟨s, A, B, e1, e2, e3, q, hq⟩ := open_rat g1
    have e0' : c0 = .int .i64 z := by simpa using e0
    subst e0' e1 e2 e3
    refine ⟨((z, s, A, B), q), fun j u hj => ?_, hq.wide ?_⟩
    · have hj4 : j < 4 := by
        rcases Nat.lt_or_ge j 4 with h | h
        · exact h
        rw [List.getElem?_eq_none (by simpa using h)] at hj; cases hj
      have := hcell j hj4
      rw [Go.Deep.add_add] at this
      rw [this]; exact hj
    have h5 := bulks.part_le (d := D i) (l := (List.range len0).map D) (List.mem_map.2 ⟨i, List.mem_range.2 hi, rfl⟩)
    have h6 : (D i) = .agg [y0.1, y1.1] := by simpa using congrArg Prod.fst hxy
    rw [h6] at h5
    simp only [Rows.uptoBulk, Rows.uptoBulkAll] at h5
    omega
  obtain ⟨q, hq⟩ := Go.Deep.choose_lt each
  have hss := Ss.of_cells (c := entC) (size := 4) (by decide) entC_len (w := w) (x := a) (xs := byR (fun i => (q i).1) len0) (length_byR ..) hl hm (fun i hi j u hj => by rw [byR_at hi] at hj; exact (hq i hi).1 j u hj)
  refine ⟨byR (fun i => ((q i).1.1, (q i).2)) len0, ⟨_, hss, by rw [length_byR, length_byR], fun k hk => ?_⟩, ?_⟩
  · rw [length_byR] at hk
    rw [byR_at hk, byR_at hk]
    exact ⟨rfl, (hq k hk).2⟩
  have := bulks.length_le ((List.range len0).map D)
  rw [List.length_map, List.length_range] at this
  rw [length_byR]
  omega
end
end Go.Proofs.YtelbjmhhbeijkaaGreat
namespace Go.Proofs.YtelbjmhhbeijkaaGreat
open Go.Vg Go.RowKit Go.Vm Go.ChangeShapes Go.WideShapes _root_.Go.Proofs.Tryz
section
variable {H : Type} {enc : TypeId × Value → H} {w : World} {base : Nat} {spare : Nat → Bool} {held : Bool}
theorem list3 {l : List Value} (h : l.length = 3) : ∃ a b c, l = [a, b, c] := by
  match l, h with
  | [a, b, c], _ => exact ⟨a, b, c, rfl⟩
theorem open_rats {fuel : Nat} {a0 : Option Addr} {len0 cap0 : Nat} {x : DataW H × List MemPlace} (h : DataW.trod enc Tryz.prog w base spare held fuel 37 [.slice a0 len0 cap0] = some x) (hk : Rows.uptoBulk x.1 ≤ 1048576) :
    ∃ qs, Rs 1048576 DT w (.slice a0 len0 cap0) qs ∧ qs.length ≤ 1048576 := by
  rcases Go.Deep.open_slice underlying37 h with ⟨hcs, _⟩ | ⟨a, len, cap, m, n, D, Pl, hcs, hb, hl, hm, hmm, rfl, hx⟩
  · injection hcs with hcs
    rw [hcs]
    exact ⟨[], ⟨[], Ss.nil (by decide), rfl, fun k hk => absurd hk (Nat.not_lt_zero _)⟩, Nat.zero_le _⟩
  injection hcs with hcs
  injection hcs with h1 h2 h3
  subst h1 h2 h3
  have hlm : len0 ≤ m := by rw [hmm]; split <;> omega
  have hbulk : Rows.uptoBulkAll ((List.range len0).map D) ≤ 1048576 := by simp only [Rows.uptoBulk] at hk; omega
  have each : ∀ i, i < len0 → ∃ p : RC × Rat, (∀ j u, (ratC p.1)[j]? = some u → w.cell? (a.add (i * 3 + j)) = some u) ∧ Rz 1048576 DT w p.1 p.2 := fun i hi => by
    obtain ⟨cs', h1, h2⟩ := hx i (by omega)
    have cr : Tryz.prog.cellsOf 44 = 3 := by kernel_rfl
    rw [cr] at h1
    obtain ⟨_, hlen, hcell⟩ := World.cells?_some h1
    obtain ⟨c1, c2, c3, rfl⟩ := list3 hlen
    obtain ⟨s, A, B, e1, e2, e3, q, hq⟩ := open_rat h2
    subst e1 e2 e3
    refine ⟨((s, sv A, sv B), q), fun j u hj => ?_, hq.wide ?_⟩
    · have hj3 : j < 3 := by
        rcases Nat.lt_or_ge j 3 with h | h
        · exact h
        rw [List.getElem?_eq_none (by simpa using h)] at hj; cases hj
      have := hcell j hj3
      rw [Go.Deep.add_add] at this
      rw [this]; exact hj
    have h5 := bulks.part_le (d := D i) (l := (List.range len0).map D) (List.mem_map.2 ⟨i, List.mem_range.2 hi, rfl⟩)
    show Rows.uptoBulk (D i) ≤ _
    omega
  obtain ⟨q, hq⟩ := Go.Deep.choose_lt each
  have hss := Ss.of_cells (c := ratC) (size := 3) (by decide) (fun _ => rfl) (w := w) (x := a) (xs := byR (fun i => (q i).1) len0) (length_byR ..) hl hm (fun i hi j u hj => by rw [byR_at hi] at hj; exact (hq i hi).1 j u hj)
  refine ⟨byR (fun i => (q i).2) len0, ⟨_, hss, by rw [length_byR, length_byR], fun k hk => ?_⟩, ?_⟩
  · rw [length_byR] at hk
    rw [byR_at hk, byR_at hk]
    exact (hq k hk).2
  have := bulks.length_le ((List.range len0).map D)
  rw [List.length_map, List.length_range] at this
  rw [length_byR]
  omega
end
end Go.Proofs.YtelbjmhhbeijkaaGreat
