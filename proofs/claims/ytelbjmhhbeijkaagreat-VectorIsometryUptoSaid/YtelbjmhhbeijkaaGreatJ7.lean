/- VectorIsometry, second form: for arguments of bulk at most 1048576 the law returns true and the arguments read as before; no other condition. Part 7 of 8: Tj Tk Zo. -/
import Derived.Test.YtelbjmhhbeijkaaGreatRows
import Derived.Deep.SlicePairs
import Derived.Test.YtelbjmhhbeijkaaGreatJ6
set_option linter.unusedVariables false
set_option linter.unusedSimpArgs false
namespace Go.Proofs.YtelbjmhhbeijkaaGreat
open Go.Vg Go.RowKit _root_.Go.Proofs.Tryz
set_option linter.unusedVariables false
open Go.Vm
theorem pigeon {α : Type} [DecidableEq α] : ∀ {l m : List α}, l.Nodup → (∀ x ∈ l, x ∈ m) → l.length ≤ m.length
  | [], _, _, _ => Nat.zero_le _
  | a :: l, m, hn, h => by
    obtain ⟨h1, h2⟩ := List.nodup_cons.1 hn
    have ha := h a (List.mem_cons_self ..)
    have h3 := pigeon (l := l) (m := m.erase a) h2 (fun x hx => (List.mem_erase_of_ne (fun e : x = a => h1 (by rw [← e]; exact hx))).2 (h x (List.mem_cons_of_mem _ hx)))
    rw [List.length_erase_of_mem ha] at h3
    have h4 := List.length_pos_of_mem ha
    rw [List.length_cons]; omega
theorem in_rng {n : Nat} {x : Int} (h0 : 0 ≤ x) (h1 : x < (n : Int)) : x ∈ (List.range n).map Int.ofNat := List.mem_map.2 ⟨x.toNat, List.mem_range.2 oM, by show ((x.toNat : Nat) : Int) = x; omega⟩
theorem isp_sur {p : List Int} (hp : IsP p) {j : Int} (h0 : 0 ≤ j) (h1 : j < (p.length : Int)) : j ∈ p := by
  rcases Classical.em (j ∈ p) with h | h
  · exact h
  have h2 := pigeon (l := j :: p) (m := (List.range p.length).map Int.ofNat) (List.nodup_cons.2 ⟨h, hp.2⟩) (fun x hx => by
    rcases List.mem_cons.1 hx with rfl | hx
    · exact in_rng h0 h1
    exact in_rng (hp.1 x hx).1 (hp.1 x hx).2)
  rw [List.length_cons, List.length_map, List.length_range] at h2
  omega
theorem asc_len {es : List Ent'} (ha : Asc es) {n : Nat} (h : ∀ e ∈ es, 0 ≤ e.1 ∧ e.1 < (n : Int)) : es.length ≤ n := by
  have h1 := pigeon (l := es.map Prod.fst) (m := (List.range n).map Int.ofNat) (List.pairwise_map.2 (ha.imp fun h => by omega)) (fun x hx => by
    obtain ⟨e, he, rfl⟩ := List.mem_map.1 hx
    exact in_rng (h e he).1 (h e he).2)
  rw [List.length_map, List.length_map, List.length_range] at h1
  exact h1
theorem isp_at {p : List Int} (hp : IsP p) {m : Nat} (hm : m < p.length) : ∃ j, j < p.length ∧ p.getD j default = (m : Int) := by
  obtain ⟨j, hj, e⟩ := List.mem_iff_getElem.1 (isp_sur hp (j := (m : Int)) oM oM)
  exact ⟨j, hj, by rw [List.getD_eq_getElem?_getD, List.getElem?_eq_getElem hj]; exact e⟩
theorem inv_isp {p q : List Int} (hp : IsP p) (hl : q.length = p.length) (hq : ∀ j, j < p.length → q.getD (p.getD j default).toNat default = (j : Int)) : IsP q := by
  have key : ∀ m, m < q.length → ∃ j, j < p.length ∧ p.getD j default = (m : Int) ∧ q.getD m default = (j : Int) := fun m hm => by
    obtain ⟨j, hj, e⟩ := isp_at hp (m := m) oM
    have := hq j hj
    rw [e, Int.toNat_natCast] at this
    exact ⟨j, hj, e, this⟩
  have gd : ∀ m (hm : m < q.length), q.getD m default = q[m] := fun m hm => by rw [List.getD_eq_getElem?_getD, List.getElem?_eq_getElem hm]; rfl
  refine ⟨fun x hx => ?_, List.pairwise_iff_getElem.2 fun a b ha hb hab he => ?_⟩
  · obtain ⟨m, hm, rfl⟩ := List.mem_iff_getElem.1 hx
    obtain ⟨j, hj, _, e⟩ := key m hm
    rw [← gd m hm, e]
    omega
  obtain ⟨i, hi, e1, f1⟩ := key a ha
  obtain ⟨j, hj, e2, f2⟩ := key b hb
  rw [gd a ha] at f1
  rw [gd b hb] at f2
  have : i = j := by omega
  rw [this] at e1
  omega
theorem inv_step {p q : List Int} (hp : IsP p) (hl : q.length = p.length) {k : Nat} (hk : k < p.length) (hq : ∀ j, j < k → q.getD (p.getD j default).toNat default = (j : Int)) : ∀ j, j < k + 1 → (q.set (p.getD k default).toNat (k : Int)).getD (p.getD j default).toNat default = (j : Int) := fun j hj => by
  have hm := hp.1 _ (getD_mem p k hk)
  by_cases h : j = k
  · subst h
    rw [List.getD_eq_getElem?_getD, List.getElem?_set_self oM]
    rfl
  have h2 := hp.1 _ (getD_mem p j oM)
  have hne : (p.getD k default).toNat ≠ (p.getD j default).toNat := fun e => h (by
    have := isp_inj hp (i := (j : Int)) (j := (k : Int)) ⟨by omega, by omega⟩ ⟨by omega, by omega⟩ (by rw [Int.toNat_natCast, Int.toNat_natCast]; omega)
    omega)
  rw [List.getD_eq_getElem?_getD, List.getElem?_set_ne hne, ← List.getD_eq_getElem?_getD]
  exact hq j oM
theorem pm_rng {p : List Int} (hp : IsP p) {r : List Ent'} (hr : ∀ e ∈ r, 0 ≤ e.1 ∧ e.1 < (p.length : Int)) : ∀ e ∈ pmL p r, 0 ≤ e.1 ∧ e.1 < (p.length : Int) := fun e he => by
  unfold pmL at he
  obtain ⟨x, hx, rfl⟩ := List.mem_map.1 he
  have := hr x hx
  exact hp.1 _ (getD_mem p x.1.toNat oM)
theorem rng_of {rs t : List Ent'} {n : Nat} (ha : Asc rs) (hz : NonZ rs) (hg : ∀ i, get rs i = get t i) (ht : ∀ e ∈ t, 0 ≤ e.1 ∧ e.1 < (n : Int)) : ∀ e ∈ rs, 0 ≤ e.1 ∧ e.1 < (n : Int) := fun e he => by
  have h1 := get_mem ha he
  rcases Classical.em (∃ x ∈ t, x.1 = e.1) with ⟨x, hx, h⟩ | h
  · rw [← h]; exact ht x hx
  have h2 := get_none (a := t) (i := e.1) (fun x hx hh => h ⟨x, hx, hh⟩)
  rw [hg, h2] at h1
  exact absurd h1.symm (hz e he)
theorem cov_of {t : List Ent'} {n : Nat} (ht : ∀ e ∈ t, 0 ≤ e.1 ∧ e.1 < (n : Int)) {i : Int} (hi : get t i ≠ 0) : 0 ≤ i ∧ i < (n : Int) := by
  rcases Classical.em (∃ x ∈ t, x.1 = i) with ⟨x, hx, h⟩ | h
  · rw [← h]; exact ht x hx
  exact absurd (get_none (a := t) (i := i) (fun x hx hh => h ⟨x, hx, hh⟩)) hi
theorem back_get {p q : List Int} {x rs : List Ent'} (hp : IsP p) (hl : q.length = p.length) (hq : ∀ j, j < p.length → q.getD (p.getD j default).toNat default = (j : Int)) (hx : ∀ e ∈ x, 0 ≤ e.1 ∧ e.1 < (p.length : Int)) (hr : ∀ e ∈ rs, 0 ≤ e.1 ∧ e.1 < (p.length : Int)) (hg : ∀ i, get rs i = get (pmL p x) i) (i : Int) : get (pmL q rs) i = get x i := by
  have hQ := inv_isp hp hl hq
  have hr2 : ∀ e ∈ rs, 0 ≤ e.1 ∧ e.1 < (q.length : Int) := by rw [hl]; exact hr
  rcases Classical.em (0 ≤ i ∧ i < (p.length : Int)) with h | h
  · have hm := hp.1 _ (getD_mem p i.toNat oM)
    have h1 := get_pm hQ (i := p.getD i.toNat default) (by rw [hl]; exact hm) hr2
    rw [hq i.toNat oM, hg, get_pm hp h hx] at h1
    rw [show ((i.toNat : Nat) : Int) = i by omega] at h1
    exact h1
  have n1 := pm_rng hQ hr2
  rw [hl] at n1
  rw [get_none (a := x) (i := i) (fun e he hh => h (by rw [← hh]; exact hx e he)), get_none (i := i) (fun e he hh => h (by rw [← hh]; exact n1 e he))]
theorem iso_dot {p : List Int} {x y u v : List Ent'} (hp : IsP p) (hx : ∀ e ∈ x, 0 ≤ e.1 ∧ e.1 < (p.length : Int)) (hy : ∀ e ∈ y, 0 ≤ e.1 ∧ e.1 < (p.length : Int)) (hu : ∀ i, get u i = get (pmL p x) i) (hv : ∀ i, get v i = get (pmL p y) i) : dtF u v = dtF x y := (dtF_ext hu hv).trans (dt_pm hp hy hx)
end Go.Proofs.YtelbjmhhbeijkaaGreat
namespace Go.Proofs.YtelbjmhhbeijkaaGreat
open Go.Vg Go.RowKit _root_.Go.Proofs.Tryz
set_option linter.unusedVariables false
open Go.Vm
set_option maxHeartbeats 4000000 in
theorem l_iso {w : World} {Da : Nat → TypeId → Prop} {va : Value} {a : List Ent'} (ha : Es 1048576 Da w va a) {Db : Nat → TypeId → Prop} {vb : Value} {b : List Ent'} (hb : Es 1048576 Db w vb b) {Dc : Nat → TypeId → Prop} {vc : Value} {cs : List Int} (hc0 : Sg (gI .i64) Dc w vc cs) :
    Calls Tryz.prog 4 #[va, vb, vc] w fun e w' => ∃ v, e = .returned v ∧ v = .bool true ∧ Ext w w' := by
 have hE : Below w.heap.size w w := Below.refl _ _
 replace ha := ha.old
 replace hb := hb.old
 have hc := hc0.old
 clear hc0
 refine calls_of (n := 81) (rs := [.tmp 6]) func4 rfl rfl rfl bL ?_
 refine wset fun F0 hF0 => ?_
 refine wsr (aS (v := (.bool false)) rfl (RL.nil (wsr (mV (v := vc) (hF0 2) ?_))))
 refine cL ent8 (t_new hc) rfl ?_
 rintro _ w1 ⟨⟨bt2, rfl, ge_bt2, hbt4⟩, he3⟩
 replace ge_bt2 := Nat.le_trans hE.size ge_bt2
 replace hE := hE.nx he3
 replace hc := hc.tr (Sm.ext he3)
 refine cL (vl := [(.pointer (some ⟨bt2, 0, none⟩)), (iv 10)]) ent9 (t_perm (n := 10) dC (at0 := 0) hbt4 hc (Nat.zero_le _) (fun T hd => absurd hd.2 (Nat.not_lt_of_le ge_bt2))) rfl ?_
 rintro vp14 w5 ⟨⟨p6, at7, ha8, hb9, hP10, hl11, hp12⟩, hx13⟩
 replace hE := hE.nb hx13 ge_bt2
 have nb_hx13 := (Nb.of hbt4 (nu_cons hc.nu (nu_cons rfl nu_nil)))
 replace hbt4 := hb9
 refine aS (v := vp14) rfl (RL.nil (wseq ?_))
 have hPo := hP10.old
 have hlo : w.heap.size ≤ w5.heap.size := hE.size
 have hEk : Below w5.heap.size w5 w5 := Below.refl _ _
 refine wregion ?_
 have hn20 : (10 : Int) = ((10 : Nat) : Int) := by omega
 refine rU (h_make1 (n := 10) uT23 ty3 rfl (int_eq hn20) (int_eq hn20) oM oM) ?_
 rintro _ w15 ⟨b16, rfl, hs19, hb18, he17⟩
 have ge_b16 := hE.ge hs19
 have gk_b16 := hEk.ge hs19
 replace hE := hE.nx he17
 replace hEk := hEk.nx he17
 replace hb18 := Af.made (g := (gI .i64)) (z := (0 : Int)) hb18 rfl
 refine aS (v := (.slice (some ⟨b16, 0, none⟩) (10) (10))) rfl (RL.nil (wseq (wsr (aS (v := (iv 0)) rfl (RL.nil ?_)))))
 refine wblock ?_
 refine wset fun F21 hF22 => ?_
 refine wloop (σ := Nat × List Int) (fun (s : Nat × List Int) fl wl => match s with | (k, q) => Off (9 :: (rg 22 11 [])) F21 fl ∧ fl 9 = (iv k) ∧ (k ≤ 10) ∧ (q.length = 10) ∧ (∀ j, j < k → q.getD (p6.getD j default).toNat default = (j : Int)) ∧ (Af (gI .i64) wl b16 3 q 10) ∧ (Es 1048576 (fun b T => Da b T ∧ b < w.heap.size) wl va a) ∧ (Es 1048576 (fun b T => Db b T ∧ b < w.heap.size) wl vb b) ∧ (Sg (gI .i64) (fun b T => Dc b T ∧ b < w.heap.size) wl vc cs) ∧ (Below w.heap.size w wl) ∧ (Sg (gI .i64) (fun b T => (fun b _ => w1.heap.size ≤ b) b T ∧ b < w5.heap.size) wl vp14 p6) ∧ (Below w5.heap.size w5 wl)) (fun (s : Nat × List Int) => match s with | (k, q) => 10 - k) (0, List.replicate 10 0) ?_ ?_
 ·replace ha := ((ha.tr (Sm.ext he3)).tr (Sm.exc hx13 (fun _ _ _ _ hd => absurd hd.2 (Nat.not_lt_of_le ge_bt2)))).tr (Sm.ext he17)
  replace hb := ((hb.tr (Sm.ext he3)).tr (Sm.exc hx13 (fun _ _ _ _ hd => absurd hd.2 (Nat.not_lt_of_le ge_bt2)))).tr (Sm.ext he17)
  replace hc := (hc.tr (Sm.exc hx13 (fun _ _ _ _ hd => absurd hd.2 (Nat.not_lt_of_le ge_bt2)))).tr (Sm.ext he17)
  replace hPo := hPo.tr (Sm.ext he17)
  exact ⟨Off.refl _ _, (hF22 9).trans (rfl), Nat.zero_le _, rfl, (fun j h => absurd h (Nat.not_lt_zero _)), hb18, ha, hb, hc, hE, hPo, hEk⟩
 clear ha hb hc hE hPo hEk hb18
 rintro ⟨k, q⟩ f23 w24 ⟨hoff25, hs26, hk, hql, hq, hb18, ha, hb, hc, hE, hPo, hEk⟩
 refine wseq (wsr (mV hs26 (rV (r_lss (k := .i64) (a := (k : Int)) (b := 10) rfl rfl) (RL.nil ?_))))
 refine wcD (p := (k : Int) < 10) rfl (fun hb27 hb27p => ?_) (fun hb27 hb27p => ?_)
 ·refine wskip ?_
  refine wseq ?_
  refine wblock ?_
  have hmp := hp12.1 _ (getD_mem p6 k oM)
  refine wregion (mV (v := (.slice (some ⟨b16, 0, none⟩) (10) (10))) ((hoff25 8 rfl).trans (hF22 8)) (mV (v := vp14) ((hoff25 7 rfl).trans (hF22 7)) (mV hs26 ?_)))
  obtain ⟨b28, o29, c30, hv31, hc32⟩ := hPo.ix (i := (k : Int)) (k) oM oM
  refine rV (r_indexAddr (i := (k : Int)) uT23 ty3 hv31 rfl oM oM) (rV (r_load (v := (iv (p6.getD (k) default))) uT3 ag3 rfl hc32) (mV hs26 (rV (r_indexAddr (i := p6.getD (k) default) uT23 ty3 rfl rfl oM oM) ?_)))
  refine RL.runs rfl rfl (h_setF (g := (gI .i64)) (vv := (iv k)) (u := (k : Int)) (i := p6.getD (k) default) ty3 rfl rfl rfl rfl rfl hb18 ((p6.getD (k) default).toNat) oM oM) ?_
  rintro w33 ⟨ha34, hx35⟩
  replace hE := hE.nb hx35 ge_b16
  replace hEk := hEk.nb hx35 gk_b16
  have nb_hx35 := (hb18.nb (fun _ => rfl))
  replace hb18 := ha34
  refine RL.nil (wregion (mV hs26 (rV (r_add (k := .i64) (a := (k : Int)) (b := 1) (c := (k : Int) + 1) rfl rfl (wi64 oM)) (aS (v := (iv ((k : Int) + 1))) rfl (RL.nil ?_)))))
  replace ha := ha.tr (Sm.exc hx35 (fun _ _ _ _ hd => absurd hd.2 (Nat.not_lt_of_le ge_b16)))
  replace hb := hb.tr (Sm.exc hx35 (fun _ _ _ _ hd => absurd hd.2 (Nat.not_lt_of_le ge_b16)))
  replace hc := hc.tr (Sm.exc hx35 (fun _ _ _ _ hd => absurd hd.2 (Nat.not_lt_of_le ge_b16)))
  replace hPo := hPo.tr (Sm.exc hx35 (fun _ _ _ _ hd => absurd hd.2 (Nat.not_lt_of_le gk_b16)))
  refine ⟨(k + 1, (q.set ((p6.getD (k) default).toNat) ((k : Int)))), ⟨?_, ?_, ?_, ?_, ?_, ?_, ?_, ?_, ?_, ?_, ?_, ?_⟩, ?_⟩
  · exact (by repeat (first | exact hoff25 | refine Off.st ?_ dC _))
  · first | rfl | exact int_eq oM | exact bool_eq (by simp)
  · omega
  · rw [List.length_set]; exact hql
  · exact inv_step hp12 (hql.trans hl11.symm) oM hq
  · exact hb18
  · exact ha
  · exact hb
  · exact hc
  · exact hE
  · exact hPo
  · exact hEk
  (try dsimp only)
  omega
 refine wexit ?_
 refine wseq ?_
 have hQs := hb18.sg (D := DT) dC trivial
 rw [show k = 10 by omega] at hq
 have hqi : ∀ j, j < p6.length → q.getD (p6.getD j default).toNat default = (j : Int) := fun j hj => hq j oM
 have hisq := inv_isp hp12 (hql.trans hl11.symm) hqi
 refine wregion (mV (v := va) ((hoff25 0 rfl).trans ((hF22 0).trans (hF0 0))) ?_)
 refine cL ent16 (l_dense ha) rfl ?_
 rintro vl38 w36 ⟨hl39, he37⟩
 replace hE := hE.nx he37
 replace hEk := hEk.nx he37
 refine cL (vl := [vl38]) ent15 (v_fromdense (L := 42991742) hl39 dC (by rw [dnK_len (Nat.le_refl _)]; decide)) rfl ?_
 rintro vo42 w40 ⟨ho43, he41⟩
 replace ho43 := Oe.fr (D' := (fun b T => w.heap.size ≤ b ∧ T = 89)) (lo' := w.heap.size) ho43 hE.size (fun _ _ h => ⟨Nat.le_trans hE.size h.1, h.2⟩)
 rw [dnK_len (Nat.le_refl _)] at ho43
 have as_xa := fdK_asc (dnK a 10) 10
 have nz_xa := fdK_nz (dnK a 10) 10
 have rg_xa := fdK_lt (dnK a 10) 10
 revert ho43 as_xa nz_xa rg_xa
 generalize fdK (dnK a 10) 10 = xa
 intro ho43 as_xa nz_xa rg_xa
 have ln_xa := asc_len as_xa rg_xa
 replace hE := hE.nx he41
 replace hEk := hEk.nx he41
 refine mV (v := vb) ((hoff25 1 rfl).trans ((hF22 1).trans (hF0 1))) ?_
 replace hb := hb.tr (Sm.ext (Ext.trans he37 he41))
 refine cL ent16 (l_dense hb) rfl ?_
 rintro vl46 w44 ⟨hl47, he45⟩
 replace hE := hE.nx he45
 replace hEk := hEk.nx he45
 refine cL (vl := [vl46]) ent15 (v_fromdense (L := 42991742) hl47 dC (by rw [dnK_len (Nat.le_refl _)]; decide)) rfl ?_
 rintro vo50 w48 ⟨ho51, he49⟩
 replace ho51 := Oe.fr (D' := (fun b T => w.heap.size ≤ b ∧ T = 89)) (lo' := w.heap.size) ho51 hE.size (fun _ _ h => ⟨Nat.le_trans hE.size h.1, h.2⟩)
 rw [dnK_len (Nat.le_refl _)] at ho51
 have as_xb := fdK_asc (dnK b 10) 10
 have nz_xb := fdK_nz (dnK b 10) 10
 have rg_xb := fdK_lt (dnK b 10) 10
 revert ho51 as_xb nz_xb rg_xb
 generalize fdK (dnK b 10) 10 = xb
 intro ho51 as_xb nz_xb rg_xb
 have ln_xb := asc_len as_xb rg_xb
 replace hE := hE.nx he49
 replace hEk := hEk.nx he49
 refine aS (v := vo42) rfl (aS (v := vo50) rfl (RL.nil (wsr (mV (v := vo42) rfl (mV (v := vp14) ((hoff25 7 rfl).trans (hF22 7)) ?_)))))
 replace ho43 := ho43.ext (Ext.trans he45 he49)
 have hm68 := Ext.trans he37 (Ext.trans he41 (Ext.trans he45 he49))
 replace hPo := hPo.tr (Sm.ext hm68)
 replace ha := ha.tr (Sm.ext hm68)
 refine cL (vl := [vo42, vp14]) ent11 (v_permute (x := xa) (L := 42991743) (M := 42991743) (p := p6) (ho43.rd (D' := (fun b _ => w.heap.size ≤ b)) (fun _ h => h) (fun _ _ h => h.1)) (.inl ⟨as_xa, Nat.le_refl _⟩) oM dC hPo oM (fun r ha hz hg => by rw [canon_ext r xa ha as_xa hz nz_xa hg]; omega)) rfl ?_
 rintro vt54 w52 ⟨⟨vr55, ok56, rfl, hdis57⟩, he53⟩
 obtain ⟨rfl, hpp58, r059, rs60, hpe61, ha62, hz63, hg64, hra65, hrz66, hrg67⟩ := hdis57.resolve_left (fun h => h.2.2 ⟨hp12, fun i hi => by rw [hl11]; exact cov_of rg_xa hi⟩)
 replace hpe61 := hpe61.mono (D' := (fun b _ => w.heap.size ≤ b)) (fun _ _ h => Nat.le_trans hE.size h)
 replace hE := hE.nx he53
 replace hEk := hEk.nx he53
 rw [canon_ext r059 xa hra65 as_xa hrz66 nz_xa hrg67] at hg64
 have rg_rs60 := rng_of ha62 hz63 hg64 (pm_rng hp12 (by rw [hl11]; exact rg_xa))
 rw [hl11] at rg_rs60
 have ln_rs60 := asc_len ha62 rg_rs60
 refine mV (v := (.tuple #[vr55, (.bool true)])) rfl (rV (r_extract (v := vr55) rfl rfl) (rV (r_extract (v := (.bool true)) rfl rfl) (aS (v := vr55) rfl (aS (v := (.bool true)) rfl (RL.nil (wsr (mV (v := vo50) rfl (mV (v := vp14) ((hoff25 7 rfl).trans (hF22 7)) ?_))))))))
 replace ho51 := ho51.ext he53
 replace hPo := hPo.tr (Sm.ext he53)
 replace ha := ha.tr (Sm.ext he53)
 refine cL (vl := [vo50, vp14]) ent11 (v_permute (x := xb) (L := 42991743) (M := 42991743) (p := p6) (ho51.rd (D' := (fun b _ => w.heap.size ≤ b)) (fun _ h => h) (fun _ _ h => h.1)) (.inl ⟨as_xb, Nat.le_refl _⟩) oM dC hPo oM (fun r ha hz hg => by rw [canon_ext r xb ha as_xb hz nz_xb hg]; omega)) rfl ?_
 rintro vt71 w69 ⟨⟨vr72, ok73, rfl, hdis74⟩, he70⟩
 obtain ⟨rfl, hpp75, r076, rs77, hpe78, ha79, hz80, hg81, hra82, hrz83, hrg84⟩ := hdis74.resolve_left (fun h => h.2.2 ⟨hp12, fun i hi => by rw [hl11]; exact cov_of rg_xb hi⟩)
 replace hpe78 := hpe78.mono (D' := (fun b _ => w.heap.size ≤ b)) (fun _ _ h => Nat.le_trans hE.size h)
 replace hE := hE.nx he70
 replace hEk := hEk.nx he70
 rw [canon_ext r076 xb hra82 as_xb hrz83 nz_xb hrg84] at hg81
 have rg_rs77 := rng_of ha79 hz80 hg81 (pm_rng hp12 (by rw [hl11]; exact rg_xb))
 rw [hl11] at rg_rs77
 have ln_rs77 := asc_len ha79 rg_rs77
 refine mV (v := (.tuple #[vr72, (.bool true)])) rfl (rV (r_extract (v := vr72) rfl rfl) (rV (r_extract (v := (.bool true)) rfl rfl) (aS (v := vr72) rfl (aS (v := (.bool true)) rfl (RL.nil (wsr (mV (v := vr55) rfl (mV (v := (.slice (some ⟨b16, 0, none⟩) (10) (10))) ((hoff25 8 rfl).trans (hF22 8)) ?_))))))))
 replace hpe61 := hpe61.tr (Sm.ext he70)
 have hm101 := Ext.trans he37 (Ext.trans he41 (Ext.trans he45 (Ext.trans he49 (Ext.trans he53 he70))))
 replace hQs := hQs.tr (Sm.ext hm101)
 replace ha := ha.tr (Sm.ext he70)
 refine cL (vl := [vr55, (.slice (some ⟨b16, 0, none⟩) (10) (10))]) ent11 (v_permute (x := rs60) (L := 42991744) (M := 42991744) (p := q) hpe61.rd (.inl ⟨ha62, Nat.le_refl _⟩) oM dC hQs oM (fun r ha hz hg => by rw [canon_ext r rs60 ha ha62 hz hz63 hg]; omega)) rfl ?_
 rintro vt87 w85 ⟨⟨vr88, ok89, rfl, hdis90⟩, he86⟩
 obtain ⟨rfl, hpp91, r092, rs93, hpe94, ha95, hz96, hg97, hra98, hrz99, hrg100⟩ := hdis90.resolve_left (fun h => h.2.2 ⟨hisq, fun i hi => by rw [hql]; exact cov_of rg_rs60 hi⟩)
 replace hpe94 := hpe94.mono (D' := (fun b _ => w.heap.size ≤ b)) (fun _ _ h => Nat.le_trans hE.size h)
 replace hE := hE.nx he86
 replace hEk := hEk.nx he86
 rw [canon_ext r092 rs60 hra98 ha62 hrz99 hz63 hrg100] at hg97
 have hbk : rs93 = xa := canon_ext _ _ ha95 as_xa hz96 nz_xa (fun i => (hg97 i).trans (back_get hp12 (hql.trans hl11.symm) hqi (by rw [hl11]; exact rg_xa) (by rw [hl11]; exact rg_rs60) hg64 i))
 rw [hbk] at hpe94
 refine mV (v := (.tuple #[vr88, (.bool true)])) rfl (rV (r_extract (v := vr88) rfl rfl) (rV (r_extract (v := (.bool true)) rfl rfl) (aS (v := vr88) rfl (aS (v := (.bool true)) rfl (RL.nil (wsr ?_))))))
 refine cL ent14 (l_awake) rfl ?_
 rintro _ w102 ⟨rfl, he103⟩
 replace hE := hE.nx he103
 replace hEk := hEk.nx he103
 refine mV (v := (.bool true)) rfl ?_
 refine RL.gval rfl rfl rfl rfl dC (r_move_as (v := (.bool true)) rfl) ?_
 refine rV (r_pick_t (v := (.bool true)) rfl rfl) (mV (v := (.bool true)) rfl ?_)
 refine RL.gval rfl rfl rfl rfl dC (r_move_as (v := (.bool true)) rfl) ?_
 refine rV (r_pick_t (v := (.bool true)) rfl rfl) (mV (v := (.bool true)) rfl ?_)
 refine RL.gval rfl rfl rfl rfl dC (r_move_as (v := (.bool true)) rfl) ?_
 refine rV (r_pick_t (v := (.bool true)) rfl rfl) (mV (v := (.bool true)) rfl ?_)
 refine RL.gval rfl rfl rfl rfl dC (r_move_as (v := vr55) rfl) ?_
 refine RL.gval rfl rfl rfl rfl dC (r_move_as (v := vr72) rfl) ?_
 replace hpe61 := hpe61.tr (Sm.ext (Ext.trans he86 he103))
 replace hpe78 := hpe78.tr (Sm.ext (Ext.trans he86 he103))
 refine RL.gcall rfl rfl rfl rfl dC (r_call (vl := [vr55, vr72]) ent18 rfl) (v_dot (M := 42991745) (x := rs60) (y := rs77) hpe61.rd hpe78.rd (.inl ⟨ha62, by decide⟩) oM (.inl ⟨ha79, by decide⟩) oM dC) ?_
 rintro _ w104 ⟨⟨vq106, uq107, hv108, hq109, hd110, _, _⟩, he105⟩
 have hdq111 : dtF rs60 rs77 = (dtF xa xb) := iso_dot hp12 (by rw [hl11]; exact rg_xa) (by rw [hl11]; exact rg_xb) hg64 hg81
 rw [hdq111] at hv108 hq109 hd110
 subst hv108
 replace hE := hE.nx he105
 replace hEk := hEk.nx he105
 refine RL.gval rfl rfl rfl rfl dC (r_move_as (v := vo42) rfl) ?_
 refine RL.gval rfl rfl rfl rfl dC (r_move_as (v := vo50) rfl) ?_
 have hm120 := Ext.trans he53 (Ext.trans he70 (Ext.trans he86 (Ext.trans he103 he105)))
 replace ho43 := ho43.ext hm120
 have hm121 := Ext.trans he70 (Ext.trans he86 (Ext.trans he103 he105))
 replace ho51 := ho51.ext hm121
 refine RL.gcall rfl rfl rfl rfl dC (r_call (vl := [vo42, vo50]) ent18 rfl) (v_dot (M := 42991745) (x := xa) (y := xb) (ho43.rd (D' := (fun b _ => w.heap.size ≤ b)) (fun _ h => h) (fun _ _ h => h.1)) (ho51.rd (D' := (fun b _ => w.heap.size ≤ b)) (fun _ h => h) (fun _ _ h => h.1)) (.inl ⟨as_xa, by decide⟩) oM (.inl ⟨as_xb, by decide⟩) oM dC) ?_
 rintro _ w112 ⟨⟨vq114, uq115, hv116, hq117, hd118, _, _⟩, he113⟩
 subst hv116
 replace hE := hE.nx he113
 replace hEk := hEk.nx he113
 replace hq109 := hq109.tr (Sm.ext he113)
 replace hd110 := hd110.tr (Sm.ext he113)
 refine RL.gcall rfl rfl rfl rfl dC (r_call (vl := [(.agg #[(bd ((dtF xa xb).num < 0)), vq106, uq107]), (.agg #[(bd ((dtF xa xb).num < 0)), vq114, uq115])]) ent17 rfl) (r03_eqt hq109 hd110 hq117 hd118) ?_
 rintro _ w122 ⟨rfl, he123⟩
 replace hE := hE.nx he123
 replace hEk := hEk.nx he123
 refine rV (r_pick_t (v := (.bool true)) rfl rfl) (mV (v := (.bool true)) rfl ?_)
 refine RL.gval rfl rfl rfl rfl dC (r_move_as (v := vr88) rfl) ?_
 refine RL.gval rfl rfl rfl rfl dC (r_move_as (v := vo42) rfl) ?_
 have hm126 := Ext.trans he103 (Ext.trans he105 (Ext.trans he113 he123))
 replace hpe94 := hpe94.tr (Sm.ext hm126)
 replace ho43 := ho43.ext (Ext.trans he113 he123)
 refine RL.gcall rfl rfl rfl rfl dC (r_call (vl := [vr88, vo42]) ent13 rfl) (r06_ident (L := 42991745) (es := xa) (hpe94.wide oM) ((ho43.ec (D' := (fun b _ => w.heap.size ≤ b)) (fun _ h => h) (fun _ _ h => h.1)).wide oM) oM) ?_
 rintro _ w124 ⟨rfl, he125⟩
 replace hE := hE.nx he125
 replace hEk := hEk.nx he125
 refine rV (r_pick_t (v := (.bool true)) rfl rfl) (aS (v := (.bool true)) rfl (RL.nil ?_))
 refine wret ?_
 refine ⟨[(.bool true)], ⟨rfl, trivial⟩, ?_⟩
 exact ⟨rfl, hE⟩
end Go.Proofs.YtelbjmhhbeijkaaGreat
namespace Go.Proofs.YtelbjmhhbeijkaaGreat
open Go.Vg Go.RowKit Go.Vm Go.ChangeShapes Go.WideShapes _root_.Go.Proofs.Tryz
namespace bulks
theorem one_le {H : Type} (d : DataW H) : 1 ≤ Rows.uptoBulk d := by
  cases d with
  | lit l => cases l <;> simp [Rows.uptoBulk]
  | nil => simp [Rows.uptoBulk]
  | ptr d => simp [Rows.uptoBulk]
  | slice elems spare => simp [Rows.uptoBulk]
  | agg parts => simp [Rows.uptoBulk]
  | iface t d => simp [Rows.uptoBulk]
  | map entries => simp [Rows.uptoBulk]
  | held h => simp [Rows.uptoBulk]
theorem part_le {H : Type} {d : DataW H} {l : List (DataW H)} (h : d ∈ l) : Rows.uptoBulk d ≤ Rows.uptoBulkAll l := by
  induction l with
  | nil => cases h
  | cons x r ih =>
    simp only [Rows.uptoBulkAll]
    cases List.mem_cons.1 h with
    | inl e => subst e; omega
    | inr e => have := ih e; omega
theorem length_le {H : Type} (l : List (DataW H)) : l.length ≤ Rows.uptoBulkAll l := by
  induction l with
  | nil => simp [Rows.uptoBulkAll]
  | cons x r ih => have := one_le x; simp only [Rows.uptoBulkAll, List.length_cons]; omega
end bulks
section
variable {H : Type} {enc : TypeId × Value → H} {w : World} {base : Nat} {spare : Nat → Bool} {held : Bool}
theorem flat_one (xs : List Nat) : (xs.map fun n : Nat => [(.int .u32 (n : Int) : Value)]).flatten = xs.map (gN .u32) := by
  induction xs with
  | nil => rfl
  | cons a l ih => rw [List.map_cons, List.flatten_cons, ih]; rfl
theorem sg_of_cells {x : Addr} {len cap : Nat} {xs : List Nat} (hl : xs.length = len) (hlc : len ≤ cap) (hm : cap ≤ maxLen) (hc : ∀ i, i < len → w.cell? (x.add i) = some (.int .u32 ((xs.getD i default : Nat) : Int))) : Sg (gN .u32) DT w (.slice (some x) len cap) xs := by
  have h := Ss.of_cells (c := fun n : Nat => [(.int .u32 (n : Int) : Value)]) (size := 1) (by decide) (fun _ => rfl) (w := w) (x := x) hl hlc hm (fun i hi j u hj => by
    match j, hj with
    | 0, hj =>
      have e : u = .int .u32 ((xs.getD i default : Nat) : Int) := by simpa using hj.symm
      rw [e]
      have := hc i hi
      simpa using this
    | j + 1, hj => simp at hj)
  obtain ⟨_, h2⟩ := h
  rw [flat_one] at h2
  exact h2
theorem open_limbs {fuel : Nat} {v : Value} {x : DataW H × List MemPlace} (h : DataW.trod enc Tryz.prog w base spare held fuel 40 [v] = some x) : ∃ (A : SV) (xs : List Nat), v = sv A ∧ Sg (gN .u32) DT w (sv A) xs ∧ Lm xs ∧ xs.length ≤ Rows.uptoBulk x.1 := by
  rcases Go.Deep.open_slice underlying40 h with ⟨hcs, _⟩ | ⟨a, len, cap, m, n, D, Pl, hcs, hb, hl, hm, hmm, rfl, hx⟩
  · injection hcs with hcs
    exact ⟨(none, 0, 0), [], hcs, Sg.nil, Lm.nil, Nat.zero_le _⟩
  injection hcs with hcs
  have hlm : len ≤ m := by rw [hmm]; split <;> omega
  have each : ∀ i, i < len → ∃ z : Nat, w.cell? (a.add i) = some (.int .u32 (z : Int)) ∧ z < 4294967296 := fun i hi => by
    obtain ⟨cs', h1, h2⟩ := hx i (by omega)
    have ce : Tryz.prog.cellsOf 89 = 1 := by kernel_rfl
    rw [ce] at h1
    obtain ⟨_, hlen, hcell⟩ := World.cells?_some h1
    obtain ⟨z, rfl, _, hwf⟩ := DataW.trod_int underlying89 h2
    have e0 := hcell 0 (by omega)
    rw [Go.Deep.add_add] at e0
    have hr : 0 ≤ z ∧ z < 4294967296 := by simp [Lit.wf, IntKind.min, IntKind.max, IntKind.signed, IntKind.bits] at hwf; omega
    refine ⟨z.toNat, ?_, by omega⟩
    rw [show ((z.toNat : Nat) : Int) = z by omega]
    simpa using e0
  obtain ⟨q, hq⟩ := Go.Deep.choose_lt each
  refine ⟨(some a, len, cap), byR q len, hcs, sg_of_cells (length_byR ..) hl hm (fun i hi => by rw [byR_at hi]; exact (hq i hi).1), fun z hz => ?_, ?_⟩
  · obtain ⟨i, hi, rfl⟩ := List.getElem_of_mem hz
    rw [length_byR] at hi
    have := (hq i hi).2
    have e := byR_at (f := q) hi
    simp only [List.getD_eq_getElem?_getD] at e
    rw [List.getElem?_eq_getElem (by rw [length_byR]; exact hi), Option.getD_some] at e
    rw [e]; exact this
  have := bulks.length_le ((List.range len).map D)
  simp only [Rows.uptoBulk]
  rw [length_byR]
  simp only [List.length_map, List.length_range] at this
  omega
theorem list4 {l : List Value} (h : l.length = 4) : ∃ a b c d, l = [a, b, c, d] := by
  match l, h with
  | [a, b, c, d], _ => exact ⟨a, b, c, d, rfl⟩
theorem list2' {α : Type} {l : List α} (h : l.length = 2) : ∃ a b, l = [a, b] := by
  match l, h with
  | [a, b], _ => exact ⟨a, b, rfl⟩
theorem open_rat {fuel : Nat} {c1 c2 c3 : Value} {x : DataW H × List MemPlace} (h : DataW.trod enc Tryz.prog w base spare held fuel 44 [c1, c2, c3] = some x) :
    ∃ (s : Bool) (A B : SV), c1 = .bool s ∧ c2 = sv A ∧ c3 = sv B ∧ ∃ q, Rz (Rows.uptoBulk x.1) DT w (s, sv A, sv B) q := by
  obtain ⟨xs, n, _, hxy, _, hxl, hf⟩ := DataW.trod_struct underlying44 h
  have g0 := hf 0 _ rfl
  have g1 := hf 1 _ rfl
  have ci : Tryz.prog.cellsOf 42 = 2 := by kernel_rfl
  have cs : Tryz.prog.cellsOf 40 = 1 := by kernel_rfl
  have cb : Tryz.prog.cellsOf 4 = 1 := by kernel_rfl
  obtain ⟨y0, y1, rfl⟩ := list2' hxl
  simp [ci, cs] at g0 g1
  obtain ⟨zs, n2, _, hzy, _, hzl, hz⟩ := DataW.trod_struct underlying42 g0
  have k0 := hz 0 _ rfl
  have k1 := hz 1 _ rfl
  obtain ⟨z0, z1, rfl⟩ := list2' hzl
  simp [cb, cs] at k0 k1
  obtain ⟨s, e1, _⟩ := DataW.trod_bool underlying4 k0
  obtain ⟨A, xa, e2, ha, la, ba⟩ := open_limbs k1
  obtain ⟨B, xb, e3, hb, lb, bb⟩ := open_limbs g1
  have e1' : c1 = .bool s := by simpa using e1
  refine ⟨s, A, B, e1', e2, e3, _, xa, xb, ha, la, ?_, hb, lb, ?_, rfl⟩
  · rw [hxy]
    simp only [Rows.uptoBulk, List.map_cons, List.map_nil, Rows.uptoBulkAll]
    rw [hzy]
    simp only [Rows.uptoBulk, List.map_cons, List.map_nil, Rows.uptoBulkAll]
    omega
  rw [hxy]
  simp only [Rows.uptoBulk, List.map_cons, List.map_nil, Rows.uptoBulkAll]
  omega
theorem open_entries {fuel : Nat} {a0 : Option Addr} {len0 cap0 : Nat} {x : DataW H × List MemPlace} (h : DataW.trod enc Tryz.prog w base spare held fuel 22 [.slice a0 len0 cap0] = some x) (hk : Rows.uptoBulk x.1 ≤ 1048576) :
    ∃ es, Es 1048576 DT w (.slice a0 len0 cap0) es ∧ es.length ≤ 1048576 := by
  rcases Go.Deep.open_slice underlying22 h with ⟨hcs, _⟩ | ⟨a, len, cap, m, n, D, Pl, hcs, hb, hl, hm, hmm, rfl, hx⟩
  · injection hcs with hcs
    rw [hcs]
    exact ⟨[], Es.nil, Nat.zero_le _⟩
  injection hcs with hcs
  injection hcs with h1 h2 h3
  subst h1 h2 h3
  have hlm : len0 ≤ m := by rw [hmm]; split <;> omega
  have hbulk : Rows.uptoBulkAll ((List.range len0).map D) ≤ 1048576 := by simp only [Rows.uptoBulk] at hk; omega
  have each : ∀ i, i < len0 → ∃ p : EC × Rat, (∀ j u, (entC p.1)[j]? = some u → w.cell? (a.add (i * 4 + j)) = some u) ∧ Rz 1048576 DT w (rcOf p.1) p.2 := fun i hi => by
    obtain ⟨cs', h1, h2⟩ := hx i (by omega)
    have ce : Tryz.prog.cellsOf 55 = 4 := by kernel_rfl
    have ci : Tryz.prog.cellsOf 3 = 1 := by kernel_rfl
    have cr : Tryz.prog.cellsOf 44 = 3 := by kernel_rfl
    rw [ce] at h1
    obtain ⟨_, hlen, hcell⟩ := World.cells?_some h1
    obtain ⟨c0, c1, c2, c3, rfl⟩ := list4 hlen
    obtain ⟨xs, n2, _, hxy, _, hxl, hf⟩ := DataW.trod_struct underlying55 h2
    have g0 := hf 0 _ rfl
    have g1 := hf 1 _ rfl
    obtain ⟨y0, y1, rfl⟩ := list2' hxl
    simp [ci, cr] at g0 g1
    obtain ⟨z, e0, _, _⟩ := DataW.trod_int underlying3 g0
    obtain ⟨s, A, B, e1, e2, e3, q, hq⟩ := open_rat g1
    have e0' : c0 = .int .i64 z := by simpa using e0
    subst e0' e1 e2 e3
    refine ⟨((z, s, A, B), q), fun j u hj => ?_, hq.wide ?_⟩
    · have hj4 : j < 4 := by
        rcases Nat.lt_or_ge j 4 with h | h
        · exact h
        rw [List.getElem?_eq_none (by simpa using h)] at hj; cases hj
      have := hcell j hj4
      rw [Go.Deep.add_add] at this
      rw [this]; exact hj
    have h5 := bulks.part_le (d := D i) (l := (List.range len0).map D) (List.mem_map.2 ⟨i, List.mem_range.2 hi, rfl⟩)
    have h6 : (D i) = .agg [y0.1, y1.1] := by simpa using congrArg Prod.fst hxy
    rw [h6] at h5
    simp only [Rows.uptoBulk, Rows.uptoBulkAll] at h5
    omega
  obtain ⟨q, hq⟩ := Go.Deep.choose_lt each
  have hss := Ss.of_cells (c := entC) (size := 4) (by decide) entC_len (w := w) (x := a) (xs := byR (fun i => (q i).1) len0) (length_byR ..) hl hm (fun i hi j u hj => by rw [byR_at hi] at hj; exact (hq i hi).1 j u hj)
  refine ⟨byR (fun i => ((q i).1.1, (q i).2)) len0, ⟨_, hss, by rw [length_byR, length_byR], fun k hk => ?_⟩, ?_⟩
  · rw [length_byR] at hk
    rw [byR_at hk, byR_at hk]
    exact ⟨rfl, (hq k hk).2⟩
  have := bulks.length_le ((List.range len0).map D)
  rw [List.length_map, List.length_range] at this
  rw [length_byR]
  omega
end
end Go.Proofs.YtelbjmhhbeijkaaGreat
