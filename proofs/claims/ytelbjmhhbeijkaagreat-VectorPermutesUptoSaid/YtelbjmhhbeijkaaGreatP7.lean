/- VectorPermutes, second form: for arguments of bulk at most 1048576 the law returns true and the arguments read as before; no other condition. Part 7 of 8: Yb Ri Tc Yc Yd Td Te Tf Tg Th Ti Tj Ye Yf Zo. -/
import Derived.Test.YtelbjmhhbeijkaaGreatRows
import Derived.Deep.SlicePairs
import Derived.Test.YtelbjmhhbeijkaaGreatP6
set_option linter.unusedVariables false
set_option linter.unusedSimpArgs false
namespace Go.Proofs.YtelbjmhhbeijkaaGreat
open Go.Vg Go.RowKit _root_.Go.Proofs.Tryz
set_option linter.unusedVariables false
open Go.Vm
def SA (l : List Int) : Prop := l.Pairwise fun a b => a < b
def Ix (cl : List Int) (es : List Ent') : Prop := SA cl ∧ ∀ i, i ∈ cl ↔ ∃ e ∈ es, e.1 = i
theorem ix_nil : Ix [] [] := ⟨List.Pairwise.nil, fun i => ⟨(fun h => by cases h), fun h => by obtain ⟨_, h, _⟩ := h; cases h⟩⟩
theorem ix_old {cl : List Int} {es : List Ent'} {k : Nat} (hk : k < es.length) (h : Ix cl (es.take k)) (hm : (es.getD k default).1 ∈ cl) : Ix cl (es.take (k + 1)) := by
  refine ⟨h.1, fun i => ?_⟩
  rw [take_snoc es k hk, h.2]
  constructor
  · rintro ⟨e, he, rfl⟩; exact ⟨e, List.mem_append_left _ he, rfl⟩
  rintro ⟨e, he, rfl⟩
  rcases List.mem_append.1 he with g | g
  · exact ⟨e, g, rfl⟩
  rw [List.mem_singleton.1 g]; exact (h.2 _).1 hm
theorem sa_lt {cl : List Int} (h : SA cl) {a : Nat} {x : Int} (ha : a < cl.length) (hx : x < cl.getD a default) : ∀ y ∈ cl.drop a, x < y := fun y hy => by
  obtain ⟨j, hj, rfl⟩ := List.mem_iff_getElem.1 hy
  rw [List.getElem_drop]
  rw [List.getD_eq_getElem?_getD, List.getElem?_eq_getElem ha] at hx
  have hx' : x < cl[a] := hx
  rw [List.length_drop] at hj
  rcases Nat.eq_zero_or_pos j with rfl | hp
  · exact hx'
  have := List.pairwise_iff_getElem.1 h a (a + j) ha oM oM
  omega
theorem ix_new {cl : List Int} {es : List Ent'} {k a : Nat} (hk : k < es.length) (h : Ix cl (es.take k)) (ha : a ≤ cl.length) (hlt : ∀ y ∈ cl.take a, y < (es.getD k default).1) (hge : ∀ y ∈ cl.drop a, (es.getD k default).1 < y) : Ix ((([] ++ cl.take a) ++ [(es.getD k default).1]) ++ cl.drop a) (es.take (k + 1)) := by
  generalize hx : (es.getD k default).1 = x at *
  have hp : ((([] ++ cl.take a) ++ [x]) ++ cl.drop a).Perm (x :: cl) := by
    rw [List.nil_append, List.append_assoc, List.singleton_append]
    refine List.perm_middle.trans ?_
    rw [List.take_append_drop]
  refine ⟨?_, fun i => ?_⟩
  · rw [List.nil_append, List.append_assoc, List.singleton_append]
    refine List.pairwise_append.2 ⟨h.1.sublist (List.take_sublist _ _), List.pairwise_cons.2 ⟨hge, h.1.sublist (List.drop_sublist _ _)⟩, fun y hy z hz => ?_⟩
    rcases List.mem_cons.1 hz with rfl | g
    · exact hlt y hy
    have := hlt y hy; have := hge z g; omega
  rw [hp.mem_iff, List.mem_cons, h.2, take_snoc es k hk]
  constructor
  · rintro (rfl | ⟨e, he, rfl⟩)
    · exact ⟨_, List.mem_append_right _ (by simp), hx⟩
    exact ⟨e, List.mem_append_left _ he, rfl⟩
  rintro ⟨e, he, rfl⟩
  rcases List.mem_append.1 he with g | g
  · exact .inr ⟨e, g, rfl⟩
  rw [List.mem_singleton.1 g]; exact .inl hx
theorem lt_tk {cl : List Int} {a : Nat} {x : Int} (ha : a < cl.length) (h : ∀ y ∈ cl.take a, y < x) (hx : cl.getD a default < x) : ∀ y ∈ cl.take (a + 1), y < x := by
  rw [take_snoc cl a ha]
  intro y hy
  rcases List.mem_append.1 hy with g | g
  · exact h y g
  rw [List.mem_singleton.1 g]; exact hx
theorem ge_dp {cl : List Int} (h : SA cl) {a : Nat} {x : Int} (hge : a < cl.length → x ≤ cl.getD a default) (hne : a < cl.length → ¬ cl.getD a default = x) : ∀ y ∈ cl.drop a, x < y := by
  by_cases ha : a < cl.length
  · exact sa_lt h ha (by have := hge ha; have := hne ha; omega)
  rw [List.drop_of_length_le oM]; intro y hy; cases hy
set_option maxHeartbeats 4000000 in
theorem r06_ind {w : World} {L : Nat} {Des : Nat → TypeId → Prop} {ves : Value} {es : List Ent'} (hes0 : Es L Des w ves es) {bl : Nat} (hbl : Bk w bl 22 [ves]) (hln : es.length ≤ 1048576) :
    Calls Tryz.prog 53 #[(.slice (some ⟨bl, 0, none⟩) (1) (1))] w fun e w' => ∃ v, e = .returned v ∧ (∃ cl, Ix cl es ∧ cl.length ≤ es.length ∧ Sg (gI .i64) (fun b _ => w.heap.size ≤ b) w' v cl) ∧ Ext w w' := by
 have hE : Below w.heap.size w w := Below.refl _ _
 have hes := hes0.old
 clear hes0
 refine calls_of (n := 75) (rs := [.tmp 2]) func53 rfl rfl rfl bL ?_
 refine wset fun F0 hF0 => ?_
 refine wsr (aS (v := (.slice none (0) (0))) rfl (RL.nil (wsr (aS (v := (.slice none (0) (0))) rfl (RL.nil (wseq (wsr (mV (v := (.slice (some ⟨bl, 0, none⟩) (1) (1))) (hF0 0) (rV (r_len uT105 rfl) (mV (v := (iv 0)) rfl (RL.nil ?_)))))))))))
 refine wblock ?_
 refine wset fun F1 hF2 => ?_
 refine wloop (σ := Nat × List Int × Value) (fun (s : Nat × List Int × Value) fl wl => match s with | (j, cl, vp) => Off (3 :: (rg 5 4 (rg 11 63 []))) F1 fl ∧ fl 11 = (iv j) ∧ fl 3 = vp ∧ (j ≤ 1) ∧ (Ix cl (es.take (j * es.length))) ∧ (cl.length ≤ es.length) ∧ (Sg (gI .i64) (fun b _ => w.heap.size ≤ b) wl vp cl) ∧ (Es L (fun b T => Des b T ∧ b < w.heap.size) wl ves es) ∧ (Below w.heap.size w wl) ∧ (Bk wl bl 22 [ves])) (fun (s : Nat × List Int × Value) => match s with | (j, cl, vp) => 1 - j) (0, [], (.slice none 0 0)) ?_ ?_
 ·exact ⟨Off.refl _ _, (hF2 11).trans (rfl), (hF2 3).trans (rfl), Nat.zero_le _, (by rw [Nat.zero_mul]; exact ix_nil), Nat.zero_le _, Sg.nil, hes, hE, hbl⟩
 clear hes hE hbl
 rintro ⟨j, cl, vp⟩ f3 w4 ⟨hoff5, hs6, hs7, hj, hI, hcl, hP, hes, hE, hbl⟩
 refine wsr (rV (r_lss (k := .i64) (a := (j : Int)) (b := ((1 : Nat) : Int)) hs6 ((hoff5 10 rfl).trans (hF2 10))) (RL.nil (wseq ?_)))
 refine wcD (p := (j : Int) < ((1 : Nat) : Int)) rfl (fun hb8 hb8p => ?_) (fun hb8 hb8p => ?_)
 ·refine wskip ?_
  refine wseq ?_
  refine wblock ?_
  refine wsr (rV (r_indexAddr (i := (j : Int)) uT105 ty22 ((hoff5 9 rfl).trans (hF2 9)) hs6 oM oM) (rV (r_load (v := ves) uT22 ag22 rfl (show _ = some ves by rw [show j = 0 by omega]; exact hbl.cell (j := 0) rfl)) (aS (v := ves) rfl (RL.nil (wsr (aS (v := (iv 0)) rfl (RL.nil ?_)))))))
  refine wblock ?_
  refine wset fun F9 hF10 => ?_
  refine wloop (σ := Nat × List Int × Value) (fun (s : Nat × List Int × Value) fl wl => match s with | (k, cl, vp) => Off (3 :: (rg 6 3 (rg 15 58 []))) F9 fl ∧ fl 6 = (iv k) ∧ fl 3 = vp ∧ (k ≤ es.length) ∧ (Ix cl (es.take k)) ∧ (cl.length ≤ k) ∧ (Sg (gI .i64) (fun b _ => w.heap.size ≤ b) wl vp cl) ∧ (Es L (fun b T => Des b T ∧ b < w.heap.size) wl ves es) ∧ (Below w.heap.size w wl) ∧ (Bk wl bl 22 [ves])) (fun (s : Nat × List Int × Value) => match s with | (k, cl, vp) => es.length - k) (0, cl, vp) ?_ ?_
  ·exact ⟨Off.refl _ _, (hF10 6).trans (rfl), (hF10 3).trans ((hs7).trans rfl), Nat.zero_le _, (by rw [show j * es.length = 0 by rw [show j = 0 by omega]; omega] at hI; exact hI), (by rw [show j * es.length = 0 by rw [show j = 0 by omega]; omega] at hI; have := hI.2; exact Nat.le_of_eq (by rcases cl with _ | ⟨x, t⟩; rfl; obtain ⟨_, h, _⟩ := (this x).1 (by simp); cases h)), hP, hes, hE, hbl⟩
  clear hes hE hbl hP
  rintro ⟨k, cl, vp⟩ f11 w12 ⟨hoff13, hs14, hs15, hk, hK, hck, hP, hes, hE, hbl⟩
  refine wabs fun _ hqn16 hqe17 hqr18 => ?_
  refine wseq (wsr (mV hs14 (mV (v := ves) ((hoff13 5 rfl).trans (hF10 5)) ?_)))
  obtain ⟨A19, c20, hv21, hc22, hc23⟩ := hes.len
  refine rV (r_len uT22 hv21) (rV (r_lss (k := .i64) (a := (k : Int)) (b := ((es.length : Nat) : Int)) rfl rfl) (RL.nil ?_))
  refine wcD (p := (k : Int) < ((es.length : Nat) : Int)) rfl (fun hb24 hb24p => ?_) (fun hb24 hb24p => ?_)
  ·refine wskip ?_
   refine wseq ?_
   refine wblock ?_
   refine wseq ?_
   have hkl : k < es.length := by omega
   obtain ⟨A25, c26, hv27, hc28, hc29⟩ := hP.len
   refine wregion (aS (v := (iv 0)) rfl (RL.nil (wseq ?_)))
   refine wblock ?_
   refine wset fun F30 hF31 => ?_
   refine wloop (σ := Nat) (fun (a : Nat) fl wl => Off (7 :: (rg 21 18 [])) F30 fl ∧ fl 7 = (iv a) ∧ (a ≤ cl.length) ∧ (∀ y ∈ cl.take a, y < (es.getD (k) default).1) ∧ (Es L (fun b T => Des b T ∧ b < w.heap.size) wl ves es) ∧ (Below w.heap.size w wl) ∧ (Bk wl bl 22 [ves]) ∧ (Sg (gI .i64) (fun b _ => w.heap.size ≤ b) wl vp cl)) (fun (a : Nat) => cl.length - a) (0) ?_ ?_
   ·exact ⟨Off.refl _ _, (hF31 7).trans (rfl), Nat.zero_le _, (fun y h => by simp at h), hes, hE, hbl, hP⟩
   clear hes hE hbl hP
   rintro a f32 w33 ⟨hoff34, hs35, ha, hlt, hes, hE, hbl, hP⟩
   refine wabs fun _ hqn36 hqe37 hqr38 => ?_
   refine wseq (wseq ?_)
   refine wdraw mixed fun w39 he40 => ?_
   replace hE := hE.nx he40
   refine ra 0 rfl (fun _ => r_move_as (v := (iv a)) hs35) ?_
   refine ra 1 rfl (fun _ => r_move_as (v := vp) ((hoff34 3 rfl).trans ((hF31 3).trans hs15))) ?_
   refine ra 2 rfl (fun _ => r_len uT23 hv27) ?_
   refine ra 3 rfl (fun _ => r_lss (k := .i64) (a := (a : Int)) (b := ((cl.length : Nat) : Int)) rfl rfl) ?_
   refine ra 4 rfl (fun _ => r_move_as (v := (bd ((a : Int) < ((cl.length : Nat) : Int)))) rfl) ?_
   rcases bD ((a : Int) < ((cl.length : Nat) : Int)) with ⟨hb41, hb41p⟩ | ⟨hb41, hb41p⟩
   ·have hin := hb41p
    refine RA.gtake 5 rfl kR rfl rfl (bool_eq hb41) rfl dC (fun _ => r_move_as (v := vp) ((hoff34 3 rfl).trans ((hF31 3).trans hs15))) ?_
    refine RA.gtake 6 rfl kR rfl rfl (bool_eq hb41) rfl dC (fun _ => r_move_as (v := (iv a)) hs35) ?_
    replace hP := hP.tr (Sm.ext he40)
    obtain ⟨b42, o43, c44, hv45, hc46⟩ := hP.ix (i := (a : Int)) (a) oM oM
    refine RA.gtake 7 rfl kR rfl rfl (bool_eq hb41) rfl dC (fun _ => r_indexAddr (i := (a : Int)) uT23 ty3 hv45 rfl oM oM) ?_
    refine RA.grd 8 rfl kR rfl rfl rfl (bool_eq hb41) rfl dC (Ext.refl _) (fun u hu => r_load (v := (iv (cl.getD (a) default))) uT3 ag3 rfl (cell_ext hu hc46)) ?_
    refine RA.gtake 9 rfl kR rfl rfl (bool_eq hb41) rfl dC (fun _ => r_move_as (v := ves) ((hoff34 5 rfl).trans ((hF31 5).trans ((hoff13 5 rfl).trans (hF10 5))))) ?_
    refine RA.gtake 10 rfl kR rfl rfl (bool_eq hb41) rfl dC (fun _ => r_move_as (v := (iv k)) ((hoff34 6 rfl).trans ((hF31 6).trans hs14))) ?_
    replace hes := hes.tr (Sm.ext he40)
    obtain ⟨b47, o48, c49, s54, A52, B53, x55, d56, hv50, hc51, hx57, lm58, ln59, hd60, lm61, ln62, eq63⟩ := hes.ix (i := (k : Int)) (k) oM oM
    refine RA.gtake 11 rfl kR rfl rfl (bool_eq hb41) rfl dC (fun _ => r_indexAddr (i := (k : Int)) uT22 ty55 hv50 rfl oM oM) ?_
    refine RA.gtake 12 rfl kR rfl rfl (bool_eq hb41) rfl dC (fun _ => r_fieldAddr uT55 rfl ty3 rfl) ?_
    refine RA.grd 13 rfl kR rfl rfl rfl (bool_eq hb41) rfl dC (Ext.refl _) (fun u hu => r_load (v := (iv ((es.getD (k) default).1))) uT3 ag3 rfl (cell_ext hu (hc51 0 _ rfl))) ?_
    refine RA.gtake 14 rfl kR rfl rfl (bool_eq hb41) rfl dC (fun _ => r_lss (k := .i64) (a := cl.getD (a) default) (b := (es.getD (k) default).1) rfl rfl) ?_
    refine ra 15 rfl (fun _ => r_pick_t (v := (bd ((cl.getD (a) default) < ((es.getD (k) default).1)))) (bool_eq hb41) rfl) ?_
    refine RA.done kR ?_
    refine wcD (p := (cl.getD (a) default) < ((es.getD (k) default).1)) rfl (fun hb64 hb64p => ?_) (fun hb64 hb64p => ?_)
    ·have hls := hb64p
     refine wskip ?_
     refine wblock ?_
     refine wregion (mV hs35 (rV (r_add (k := .i64) (a := (a : Int)) (b := 1) (c := (a : Int) + 1) rfl rfl (wi64 oM)) (aS (v := (iv ((a : Int) + 1))) rfl (RL.nil ?_))))
     refine hqn36 _ _ ?_
     replace hbl := hbl.ext he40
     refine ⟨(a + 1), ⟨?_, ?_, ?_, ?_, ?_, ?_, ?_, ?_⟩, ?_⟩
     · exact (by repeat (first | exact hoff34 | refine Off.st ?_ dC _ | refine Off.via hoff13 dC ?_ | refine Off.eq hF10 ?_ | refine Off.via hoff5 dC ?_ | refine Off.eq hF2 ?_))
     · first | rfl | exact int_eq oM | exact bool_eq (by simp)
     · omega
     · exact lt_tk oM hlt hls
     · exact hes
     · exact hE
     · exact hbl
     · exact hP
     (try dsimp only)
     omega
    have hge : a < cl.length → (es.getD (k) default).1 ≤ cl.getD a default := fun h => by omega
    refine wexit ?_
    refine hqe37 _ _ _ ?_
    refine wseq (wseq ?_)
    refine wdraw mixed fun w65 he66 => ?_
    replace hE := hE.nx he66
    refine ra 0 rfl (fun _ => r_move_as (v := (iv a)) hs35) ?_
    refine ra 1 rfl (fun _ => r_move_as (v := vp) ((hoff34 3 rfl).trans ((hF31 3).trans hs15))) ?_
    refine ra 2 rfl (fun _ => r_len uT23 hv27) ?_
    refine ra 3 rfl (fun _ => r_lss (k := .i64) (a := (a : Int)) (b := ((cl.length : Nat) : Int)) rfl rfl) ?_
    refine ra 4 rfl (fun _ => r_move_as (v := (bd ((a : Int) < ((cl.length : Nat) : Int)))) rfl) ?_
    rcases bD ((a : Int) < ((cl.length : Nat) : Int)) with ⟨hb67, hb67p⟩ | ⟨hb67, hb67p⟩
    ·refine RA.gtake 5 rfl kR rfl rfl (bool_eq hb67) rfl dC (fun _ => r_move_as (v := vp) ((hoff34 3 rfl).trans ((hF31 3).trans hs15))) ?_
     refine RA.gtake 6 rfl kR rfl rfl (bool_eq hb67) rfl dC (fun _ => r_move_as (v := (iv a)) hs35) ?_
     replace hP := hP.tr (Sm.ext he66)
     obtain ⟨b68, o69, c70, hv71, hc72⟩ := hP.ix (i := (a : Int)) (a) oM oM
     refine RA.gtake 7 rfl kR rfl rfl (bool_eq hb67) rfl dC (fun _ => r_indexAddr (i := (a : Int)) uT23 ty3 hv71 rfl oM oM) ?_
     refine RA.grd 8 rfl kR rfl rfl rfl (bool_eq hb67) rfl dC (Ext.refl _) (fun u hu => r_load (v := (iv (cl.getD (a) default))) uT3 ag3 rfl (cell_ext hu hc72)) ?_
     refine RA.gtake 9 rfl kR rfl rfl (bool_eq hb67) rfl dC (fun _ => r_move_as (v := ves) ((hoff34 5 rfl).trans ((hF31 5).trans ((hoff13 5 rfl).trans (hF10 5))))) ?_
     refine RA.gtake 10 rfl kR rfl rfl (bool_eq hb67) rfl dC (fun _ => r_move_as (v := (iv k)) ((hoff34 6 rfl).trans ((hF31 6).trans hs14))) ?_
     replace hes := hes.tr (Sm.ext he66)
     obtain ⟨b73, o74, c75, s80, A78, B79, x81, d82, hv76, hc77, hx83, lm84, ln85, hd86, lm87, ln88, eq89⟩ := hes.ix (i := (k : Int)) (k) oM oM
     refine RA.gtake 11 rfl kR rfl rfl (bool_eq hb67) rfl dC (fun _ => r_indexAddr (i := (k : Int)) uT22 ty55 hv76 rfl oM oM) ?_
     refine RA.gtake 12 rfl kR rfl rfl (bool_eq hb67) rfl dC (fun _ => r_fieldAddr uT55 rfl ty3 rfl) ?_
     refine RA.grd 13 rfl kR rfl rfl rfl (bool_eq hb67) rfl dC (Ext.refl _) (fun u hu => r_load (v := (iv ((es.getD (k) default).1))) uT3 ag3 rfl (cell_ext hu (hc77 0 _ rfl))) ?_
     refine RA.gtake 14 rfl kR rfl rfl (bool_eq hb67) rfl dC (fun _ => r_eql (k := .i64) (a := cl.getD (a) default) (b := (es.getD (k) default).1) rfl rfl) ?_
     refine ra 15 rfl (fun _ => r_pick_t (v := (bd ((cl.getD (a) default) = ((es.getD (k) default).1)))) (bool_eq hb67) rfl) ?_
     refine RA.done kR ?_
     refine wcD (p := (cl.getD (a) default) = ((es.getD (k) default).1)) rfl (fun hb90 hb90p => ?_) (fun hb90 hb90p => ?_)
     ·have hold : (es.getD (k) default).1 ∈ cl := hb90p ▸ getD_mem cl a oM
      refine wexit ?_
      refine wregion (mV (v := (iv k)) ((hoff34 6 rfl).trans ((hF31 6).trans hs14)) (rV (r_add (k := .i64) (a := (k : Int)) (b := 1) (c := (k : Int) + 1) rfl rfl (wi64 oM)) (aS (v := (iv ((k : Int) + 1))) rfl (RL.nil ?_))))
      refine hqn16 _ _ ?_
      replace hbl := hbl.ext (Ext.trans he40 he66)
      refine ⟨(k + 1, cl, vp), ⟨?_, ?_, ?_, ?_, ?_, ?_, ?_, ?_, ?_, ?_⟩, ?_⟩
      · exact (by repeat (first | exact hoff13 | refine Off.st ?_ dC _ | refine Off.via hoff34 dC ?_ | refine Off.eq hF31 ?_ | refine Off.via hoff5 dC ?_ | refine Off.eq hF2 ?_))
      · first | rfl | exact int_eq oM | exact bool_eq (by simp)
      · refine (((hoff34 3 rfl).trans ((hF31 3).trans hs15))).trans ?_
        first | rfl | exact int_eq oM | exact bool_eq (by simp)
      · omega
      · exact ix_old hkl hK hold
      · omega
      · exact hP
      · exact hes
      · exact hE
      · exact hbl
      (try dsimp only)
      omega
     have hne : a < cl.length → ¬ cl.getD a default = (es.getD (k) default).1 := fun h => by omega
     refine wskip ?_
     refine wseq ?_
     have hPo := hP.old
     have hlo : w.heap.size ≤ w65.heap.size := hE.size
     have hEk : Below w65.heap.size w65 w65 := Below.refl _ _
     refine wregion ?_
     refine rU (h_lit (vl := []) (cs := []) uT23 ty3 rfl dC (by first | (simp [Instr.fill, Value.cells]; done) | rfl | kernel_rfl)) ?_
     rintro _ w91 ⟨b92, rfl, hs95, hb94, he93⟩
     have ge_b92 := hE.ge hs95
     have gk_b92 := hEk.ge hs95
     replace hE := hE.nx he93
     replace hEk := hEk.nx he93
     have hQ := Oi.room (lo := w65.heap.size) hb94 gk_b92
     refine mV (v := vp) ((hoff34 3 rfl).trans ((hF31 3).trans hs15)) (mV hs35 ?_)
     replace hPo := hPo.tr (Sm.ext he93)
     have r96 := hPo.take (a) oM hv27
     refine rV (r_sh (h := (a : Int)) (kk := a) uT23 ty3 hv27 rfl oM oM) ?_
     refine rU (h_appendIs (v1 := (.slice (some ⟨b92, 0, none⟩) 0 0)) (v2 := (.slice A25 (a) (c26))) (xs := []) (ys := (cl.take (a))) uT23 ty3 rfl rfl rfl hQ r96 (by simp only [maxLen]; rw [List.length_take]; simp only [List.length_nil]; omega) (by rw [List.length_take]; simp only [List.length_nil]; omega) hEk.size) ?_
     rintro v98 w97 ⟨ho99, hg100⟩
     replace hE := hQ.gbe hg100 hE hlo hE.size
     replace hEk := hQ.gbe hg100 hEk (Nat.le_refl _) hEk.size
     refine aS (v := v98) rfl (RL.nil (wsr (mV (v := v98) rfl (mV (v := ves) ((hoff34 5 rfl).trans ((hF31 5).trans ((hoff13 5 rfl).trans (hF10 5)))) (mV (v := (iv k)) ((hoff34 6 rfl).trans ((hF31 6).trans hs14)) ?_)))))
     replace hes := (hes.tr (Sm.ext he93)).tr (hQ.gsm hg100 (fun b hb hd => absurd hd.2 (Nat.not_lt_of_le (Nat.le_trans hlo hb))))
     obtain ⟨b101, o102, c103, s108, A106, B107, x109, d110, hv104, hc105, hx111, lm112, ln113, hd114, lm115, ln116, eq117⟩ := hes.ix (i := (k : Int)) (k) oM oM
     refine rV (r_indexAddr (i := (k : Int)) uT22 ty55 hv104 rfl oM oM) (rV (r_fieldAddr uT55 rfl ty3 rfl) (rV (r_load (v := (iv ((es.getD (k) default).1))) uT3 ag3 rfl (hc105 0 _ rfl)) ?_))
     refine rU (h_lit (vl := [(0, (iv ((es.getD (k) default).1)))]) (cs := [(iv ((es.getD (k) default).1))]) uT23 ty3 rfl dC (by first | (simp [Instr.fill, Value.cells]; done) | rfl | kernel_rfl)) ?_
     rintro _ w118 ⟨b119, rfl, hs122, hb121, he120⟩
     have ge_b119 := hE.ge hs122
     have gk_b119 := hEk.ge hs122
     have on_v98_b119 : v98.ownBlock ≠ some b119 := fun h => absurd (ho99.lt _ h) (by rw [hs122]; exact Nat.lt_irrefl _)
     replace hE := hE.nx he120
     replace hEk := hEk.nx he120
     replace ho99 := ho99.ext he120
     refine rU (h_appendI (v1 := v98) (v2 := (.slice (some ⟨b119, 0, none⟩) (1) (1))) (i0 := (es.getD (k) default).1) uT23 ty3 rfl rfl rfl ho99 (hb121.sc (D := fun _ _ => True) trivial rfl dC) (by simp only [maxLen]; simp only [List.length_append, List.length_nil, List.length_take]; omega) (by simp only [List.length_append, List.length_nil, List.length_take]; omega) hEk.size) ?_
     rintro v124 w123 ⟨ho125, hg126⟩
     replace hE := ho99.gbe hg126 hE hlo hE.size
     replace hEk := ho99.gbe hg126 hEk (Nat.le_refl _) hEk.size
     refine aS (v := v124) rfl (RL.nil (wregion (mV (v := v124) rfl (mV (v := vp) ((hoff34 3 rfl).trans ((hF31 3).trans hs15)) (mV hs35 ?_)))))
     replace hPo := ((hPo.tr (hQ.gsm hg100 (fun b hb hd => absurd hd.2 (Nat.not_lt_of_le hb)))).tr (Sm.ext he120)).tr (ho99.gsm hg126 (fun b hb hd => absurd hd.2 (Nat.not_lt_of_le hb)))
     have r127 := hPo.drop (a) oM hv27
     refine rV (r_sl (l := (a : Int)) (kk := a) uT23 ty3 hv27 rfl oM oM) ?_
     refine rU (h_appendIs (v1 := v124) (v2 := (.slice (if c26 = a then (A25 : Option Addr) else (A25 : Option Addr).map (·.add (a * 1))) (cl.length - a) (c26 - a))) (xs := (([] ++ (cl.take (a))) ++ [(es.getD (k) default).1])) (ys := (cl.drop (a))) uT23 ty3 rfl rfl rfl ho125 r127 (by simp only [maxLen]; simp only [List.length_append, List.length_nil, List.length_take, List.length_drop, List.length_singleton]; omega) (by simp only [List.length_append, List.length_nil, List.length_take, List.length_drop, List.length_singleton]; omega) hEk.size) ?_
     rintro v129 w128 ⟨ho130, hg131⟩
     replace hE := ho125.gbe hg131 hE hlo hE.size
     replace hEk := ho125.gbe hg131 hEk (Nat.le_refl _) hEk.size
     refine aS (v := v129) rfl (RL.nil (wregion (mV (v := (iv k)) ((hoff34 6 rfl).trans ((hF31 6).trans hs14)) (rV (r_add (k := .i64) (a := (k : Int)) (b := 1) (c := (k : Int) + 1) rfl rfl (wi64 oM)) (aS (v := (iv ((k : Int) + 1))) rfl (RL.nil ?_))))))
     refine hqn16 _ _ ?_
     replace hes := ((hes.tr (Sm.ext he120)).tr (ho99.gsm hg126 (fun b hb hd => absurd hd.2 (Nat.not_lt_of_le (Nat.le_trans hlo hb))))).tr (ho125.gsm hg131 (fun b hb hd => absurd hd.2 (Nat.not_lt_of_le (Nat.le_trans hlo hb))))
     have hm132 := Ext.trans he40 (Ext.trans he66 he93)
     replace hbl := ho125.gbk hg131 (ho99.gbk hg126 ((hQ.gbk hg100 (hbl.ext hm132) dC).ext he120) dC) dC
     refine ⟨(k + 1, ((([] ++ (cl.take (a))) ++ [(es.getD (k) default).1]) ++ (cl.drop (a))), v129), ⟨?_, ?_, ?_, ?_, ?_, ?_, ?_, ?_, ?_, ?_⟩, ?_⟩
     · exact (by repeat (first | exact hoff13 | refine Off.st ?_ dC _ | refine Off.via hoff34 dC ?_ | refine Off.eq hF31 ?_ | refine Off.via hoff5 dC ?_ | refine Off.eq hF2 ?_))
     · first | rfl | exact int_eq oM | exact bool_eq (by simp)
     · first | rfl | exact int_eq oM | exact bool_eq (by simp)
     · omega
     · exact ix_new hkl hK oM hlt (ge_dp hK.1 hge hne)
     · simp only [List.length_append, List.length_nil, List.length_take, List.length_drop, List.length_singleton]; omega
     · exact ho130.sg (fun _ h => Nat.le_trans hlo h)
     · exact hes
     · exact hE
     · exact hbl
     (try dsimp only)
     omega
    have hne : a < cl.length → ¬ cl.getD a default = (es.getD (k) default).1 := fun h => by omega
    refine RA.gno 5 rfl kR rfl rfl (.inl (bool_eq hb67)) rfl dC ?_
    refine RA.gno 6 rfl kR rfl rfl (.inl (bool_eq hb67)) rfl dC ?_
    refine RA.gno 7 rfl kR rfl rfl (.inl (bool_eq hb67)) rfl dC ?_
    refine RA.gno 8 rfl kR rfl rfl (.inl (bool_eq hb67)) rfl dC ?_
    refine RA.gno 9 rfl kR rfl rfl (.inl (bool_eq hb67)) rfl dC ?_
    refine RA.gno 10 rfl kR rfl rfl (.inl (bool_eq hb67)) rfl dC ?_
    refine RA.gno 11 rfl kR rfl rfl (.inl (bool_eq hb67)) rfl dC ?_
    refine RA.gno 12 rfl kR rfl rfl (.inl (bool_eq hb67)) rfl dC ?_
    refine RA.gno 13 rfl kR rfl rfl (.inl (bool_eq hb67)) rfl dC ?_
    refine RA.gno 14 rfl kR rfl rfl (.inl (bool_eq hb67)) rfl dC ?_
    refine ra 15 rfl (fun _ => r_pick_f (v := (.bool false)) (bool_eq hb67) rfl) ?_
    refine RA.done kR ?_
    refine wcond_f rfl ?_
    refine wskip ?_
    refine wseq ?_
    replace hP := hP.tr (Sm.ext he66)
    have hPo := hP.old
    have hlo : w.heap.size ≤ w65.heap.size := hE.size
    have hEk : Below w65.heap.size w65 w65 := Below.refl _ _
    refine wregion ?_
    refine rU (h_lit (vl := []) (cs := []) uT23 ty3 rfl dC (by first | (simp [Instr.fill, Value.cells]; done) | rfl | kernel_rfl)) ?_
    rintro _ w133 ⟨b134, rfl, hs137, hb136, he135⟩
    have ge_b134 := hE.ge hs137
    have gk_b134 := hEk.ge hs137
    replace hE := hE.nx he135
    replace hEk := hEk.nx he135
    have hQ := Oi.room (lo := w65.heap.size) hb136 gk_b134
    refine mV (v := vp) ((hoff34 3 rfl).trans ((hF31 3).trans hs15)) (mV hs35 ?_)
    replace hPo := hPo.tr (Sm.ext he135)
    have r138 := hPo.take (a) oM hv27
    refine rV (r_sh (h := (a : Int)) (kk := a) uT23 ty3 hv27 rfl oM oM) ?_
    refine rU (h_appendIs (v1 := (.slice (some ⟨b134, 0, none⟩) 0 0)) (v2 := (.slice A25 (a) (c26))) (xs := []) (ys := (cl.take (a))) uT23 ty3 rfl rfl rfl hQ r138 (by simp only [maxLen]; rw [List.length_take]; simp only [List.length_nil]; omega) (by rw [List.length_take]; simp only [List.length_nil]; omega) hEk.size) ?_
    rintro v140 w139 ⟨ho141, hg142⟩
    replace hE := hQ.gbe hg142 hE hlo hE.size
    replace hEk := hQ.gbe hg142 hEk (Nat.le_refl _) hEk.size
    refine aS (v := v140) rfl (RL.nil (wsr (mV (v := v140) rfl (mV (v := ves) ((hoff34 5 rfl).trans ((hF31 5).trans ((hoff13 5 rfl).trans (hF10 5)))) (mV (v := (iv k)) ((hoff34 6 rfl).trans ((hF31 6).trans hs14)) ?_)))))
    replace hes := (hes.tr (Sm.ext (Ext.trans he66 he135))).tr (hQ.gsm hg142 (fun b hb hd => absurd hd.2 (Nat.not_lt_of_le (Nat.le_trans hlo hb))))
    obtain ⟨b143, o144, c145, s150, A148, B149, x151, d152, hv146, hc147, hx153, lm154, ln155, hd156, lm157, ln158, eq159⟩ := hes.ix (i := (k : Int)) (k) oM oM
    refine rV (r_indexAddr (i := (k : Int)) uT22 ty55 hv146 rfl oM oM) (rV (r_fieldAddr uT55 rfl ty3 rfl) (rV (r_load (v := (iv ((es.getD (k) default).1))) uT3 ag3 rfl (hc147 0 _ rfl)) ?_))
    refine rU (h_lit (vl := [(0, (iv ((es.getD (k) default).1)))]) (cs := [(iv ((es.getD (k) default).1))]) uT23 ty3 rfl dC (by first | (simp [Instr.fill, Value.cells]; done) | rfl | kernel_rfl)) ?_
    rintro _ w160 ⟨b161, rfl, hs164, hb163, he162⟩
    have ge_b161 := hE.ge hs164
    have gk_b161 := hEk.ge hs164
    have on_v140_b161 : v140.ownBlock ≠ some b161 := fun h => absurd (ho141.lt _ h) (by rw [hs164]; exact Nat.lt_irrefl _)
    replace hE := hE.nx he162
    replace hEk := hEk.nx he162
    replace ho141 := ho141.ext he162
    refine rU (h_appendI (v1 := v140) (v2 := (.slice (some ⟨b161, 0, none⟩) (1) (1))) (i0 := (es.getD (k) default).1) uT23 ty3 rfl rfl rfl ho141 (hb163.sc (D := fun _ _ => True) trivial rfl dC) (by simp only [maxLen]; simp only [List.length_append, List.length_nil, List.length_take]; omega) (by simp only [List.length_append, List.length_nil, List.length_take]; omega) hEk.size) ?_
    rintro v166 w165 ⟨ho167, hg168⟩
    replace hE := ho141.gbe hg168 hE hlo hE.size
    replace hEk := ho141.gbe hg168 hEk (Nat.le_refl _) hEk.size
    refine aS (v := v166) rfl (RL.nil (wregion (mV (v := v166) rfl (mV (v := vp) ((hoff34 3 rfl).trans ((hF31 3).trans hs15)) (mV hs35 ?_)))))
    replace hPo := ((hPo.tr (hQ.gsm hg142 (fun b hb hd => absurd hd.2 (Nat.not_lt_of_le hb)))).tr (Sm.ext he162)).tr (ho141.gsm hg168 (fun b hb hd => absurd hd.2 (Nat.not_lt_of_le hb)))
    have r169 := hPo.drop (a) oM hv27
    refine rV (r_sl (l := (a : Int)) (kk := a) uT23 ty3 hv27 rfl oM oM) ?_
    refine rU (h_appendIs (v1 := v166) (v2 := (.slice (if c26 = a then (A25 : Option Addr) else (A25 : Option Addr).map (·.add (a * 1))) (cl.length - a) (c26 - a))) (xs := (([] ++ (cl.take (a))) ++ [(es.getD (k) default).1])) (ys := (cl.drop (a))) uT23 ty3 rfl rfl rfl ho167 r169 (by simp only [maxLen]; simp only [List.length_append, List.length_nil, List.length_take, List.length_drop, List.length_singleton]; omega) (by simp only [List.length_append, List.length_nil, List.length_take, List.length_drop, List.length_singleton]; omega) hEk.size) ?_
    rintro v171 w170 ⟨ho172, hg173⟩
    replace hE := ho167.gbe hg173 hE hlo hE.size
    replace hEk := ho167.gbe hg173 hEk (Nat.le_refl _) hEk.size
    refine aS (v := v171) rfl (RL.nil (wregion (mV (v := (iv k)) ((hoff34 6 rfl).trans ((hF31 6).trans hs14)) (rV (r_add (k := .i64) (a := (k : Int)) (b := 1) (c := (k : Int) + 1) rfl rfl (wi64 oM)) (aS (v := (iv ((k : Int) + 1))) rfl (RL.nil ?_))))))
    refine hqn16 _ _ ?_
    replace hes := ((hes.tr (Sm.ext he162)).tr (ho141.gsm hg168 (fun b hb hd => absurd hd.2 (Nat.not_lt_of_le (Nat.le_trans hlo hb))))).tr (ho167.gsm hg173 (fun b hb hd => absurd hd.2 (Nat.not_lt_of_le (Nat.le_trans hlo hb))))
    have hm174 := Ext.trans he40 (Ext.trans he66 he135)
    replace hbl := ho167.gbk hg173 (ho141.gbk hg168 ((hQ.gbk hg142 (hbl.ext hm174) dC).ext he162) dC) dC
    refine ⟨(k + 1, ((([] ++ (cl.take (a))) ++ [(es.getD (k) default).1]) ++ (cl.drop (a))), v171), ⟨?_, ?_, ?_, ?_, ?_, ?_, ?_, ?_, ?_, ?_⟩, ?_⟩
    · exact (by repeat (first | exact hoff13 | refine Off.st ?_ dC _ | refine Off.via hoff34 dC ?_ | refine Off.eq hF31 ?_ | refine Off.via hoff5 dC ?_ | refine Off.eq hF2 ?_))
    · first | rfl | exact int_eq oM | exact bool_eq (by simp)
    · first | rfl | exact int_eq oM | exact bool_eq (by simp)
    · omega
    · exact ix_new hkl hK oM hlt (ge_dp hK.1 hge hne)
    · simp only [List.length_append, List.length_nil, List.length_take, List.length_drop, List.length_singleton]; omega
    · exact ho172.sg (fun _ h => Nat.le_trans hlo h)
    · exact hes
    · exact hE
    · exact hbl
    (try dsimp only)
    omega
   have hge : a < cl.length → (es.getD (k) default).1 ≤ cl.getD a default := fun h => by omega
   refine RA.gno 5 rfl kR rfl rfl (.inl (bool_eq hb41)) rfl dC ?_
   refine RA.gno 6 rfl kR rfl rfl (.inl (bool_eq hb41)) rfl dC ?_
   refine RA.gno 7 rfl kR rfl rfl (.inl (bool_eq hb41)) rfl dC ?_
   refine RA.gno 8 rfl kR rfl rfl (.inl (bool_eq hb41)) rfl dC ?_
   refine RA.gno 9 rfl kR rfl rfl (.inl (bool_eq hb41)) rfl dC ?_
   refine RA.gno 10 rfl kR rfl rfl (.inl (bool_eq hb41)) rfl dC ?_
   refine RA.gno 11 rfl kR rfl rfl (.inl (bool_eq hb41)) rfl dC ?_
   refine RA.gno 12 rfl kR rfl rfl (.inl (bool_eq hb41)) rfl dC ?_
   refine RA.gno 13 rfl kR rfl rfl (.inl (bool_eq hb41)) rfl dC ?_
   refine RA.gno 14 rfl kR rfl rfl (.inl (bool_eq hb41)) rfl dC ?_
   refine ra 15 rfl (fun _ => r_pick_f (v := (.bool false)) (bool_eq hb41) rfl) ?_
   refine RA.done kR ?_
   refine wcond_f rfl ?_
   refine wexit ?_
   refine hqe37 _ _ _ ?_
   refine wseq (wseq ?_)
   refine wdraw mixed fun w175 he176 => ?_
   replace hE := hE.nx he176
   refine ra 0 rfl (fun _ => r_move_as (v := (iv a)) hs35) ?_
   refine ra 1 rfl (fun _ => r_move_as (v := vp) ((hoff34 3 rfl).trans ((hF31 3).trans hs15))) ?_
   refine ra 2 rfl (fun _ => r_len uT23 hv27) ?_
   refine ra 3 rfl (fun _ => r_lss (k := .i64) (a := (a : Int)) (b := ((cl.length : Nat) : Int)) rfl rfl) ?_
   refine ra 4 rfl (fun _ => r_move_as (v := (bd ((a : Int) < ((cl.length : Nat) : Int)))) rfl) ?_
   rcases bD ((a : Int) < ((cl.length : Nat) : Int)) with ⟨hb177, hb177p⟩ | ⟨hb177, hb177p⟩
   ·refine RA.gtake 5 rfl kR rfl rfl (bool_eq hb177) rfl dC (fun _ => r_move_as (v := vp) ((hoff34 3 rfl).trans ((hF31 3).trans hs15))) ?_
    refine RA.gtake 6 rfl kR rfl rfl (bool_eq hb177) rfl dC (fun _ => r_move_as (v := (iv a)) hs35) ?_
    replace hP := hP.tr (Sm.ext (Ext.trans he40 he176))
    obtain ⟨b178, o179, c180, hv181, hc182⟩ := hP.ix (i := (a : Int)) (a) oM oM
    refine RA.gtake 7 rfl kR rfl rfl (bool_eq hb177) rfl dC (fun _ => r_indexAddr (i := (a : Int)) uT23 ty3 hv181 rfl oM oM) ?_
    refine RA.grd 8 rfl kR rfl rfl rfl (bool_eq hb177) rfl dC (Ext.refl _) (fun u hu => r_load (v := (iv (cl.getD (a) default))) uT3 ag3 rfl (cell_ext hu hc182)) ?_
    refine RA.gtake 9 rfl kR rfl rfl (bool_eq hb177) rfl dC (fun _ => r_move_as (v := ves) ((hoff34 5 rfl).trans ((hF31 5).trans ((hoff13 5 rfl).trans (hF10 5))))) ?_
    refine RA.gtake 10 rfl kR rfl rfl (bool_eq hb177) rfl dC (fun _ => r_move_as (v := (iv k)) ((hoff34 6 rfl).trans ((hF31 6).trans hs14))) ?_
    replace hes := hes.tr (Sm.ext (Ext.trans he40 he176))
    obtain ⟨b183, o184, c185, s190, A188, B189, x191, d192, hv186, hc187, hx193, lm194, ln195, hd196, lm197, ln198, eq199⟩ := hes.ix (i := (k : Int)) (k) oM oM
    refine RA.gtake 11 rfl kR rfl rfl (bool_eq hb177) rfl dC (fun _ => r_indexAddr (i := (k : Int)) uT22 ty55 hv186 rfl oM oM) ?_
    refine RA.gtake 12 rfl kR rfl rfl (bool_eq hb177) rfl dC (fun _ => r_fieldAddr uT55 rfl ty3 rfl) ?_
    refine RA.grd 13 rfl kR rfl rfl rfl (bool_eq hb177) rfl dC (Ext.refl _) (fun u hu => r_load (v := (iv ((es.getD (k) default).1))) uT3 ag3 rfl (cell_ext hu (hc187 0 _ rfl))) ?_
    refine RA.gtake 14 rfl kR rfl rfl (bool_eq hb177) rfl dC (fun _ => r_eql (k := .i64) (a := cl.getD (a) default) (b := (es.getD (k) default).1) rfl rfl) ?_
    refine ra 15 rfl (fun _ => r_pick_t (v := (bd ((cl.getD (a) default) = ((es.getD (k) default).1)))) (bool_eq hb177) rfl) ?_
    refine RA.done kR ?_
    refine wcD (p := (cl.getD (a) default) = ((es.getD (k) default).1)) rfl (fun hb200 hb200p => ?_) (fun hb200 hb200p => ?_)
    ·have hold : (es.getD (k) default).1 ∈ cl := hb200p ▸ getD_mem cl a oM
     refine wexit ?_
     refine wregion (mV (v := (iv k)) ((hoff34 6 rfl).trans ((hF31 6).trans hs14)) (rV (r_add (k := .i64) (a := (k : Int)) (b := 1) (c := (k : Int) + 1) rfl rfl (wi64 oM)) (aS (v := (iv ((k : Int) + 1))) rfl (RL.nil ?_))))
     refine hqn16 _ _ ?_
     replace hbl := hbl.ext (Ext.trans he40 he176)
     refine ⟨(k + 1, cl, vp), ⟨?_, ?_, ?_, ?_, ?_, ?_, ?_, ?_, ?_, ?_⟩, ?_⟩
     · exact (by repeat (first | exact hoff13 | refine Off.st ?_ dC _ | refine Off.via hoff34 dC ?_ | refine Off.eq hF31 ?_ | refine Off.via hoff5 dC ?_ | refine Off.eq hF2 ?_))
     · first | rfl | exact int_eq oM | exact bool_eq (by simp)
     · refine (((hoff34 3 rfl).trans ((hF31 3).trans hs15))).trans ?_
       first | rfl | exact int_eq oM | exact bool_eq (by simp)
     · omega
     · exact ix_old hkl hK hold
     · omega
     · exact hP
     · exact hes
     · exact hE
     · exact hbl
     (try dsimp only)
     omega
    have hne : a < cl.length → ¬ cl.getD a default = (es.getD (k) default).1 := fun h => by omega
    refine wskip ?_
    refine wseq ?_
    have hPo := hP.old
    have hlo : w.heap.size ≤ w175.heap.size := hE.size
    have hEk : Below w175.heap.size w175 w175 := Below.refl _ _
    refine wregion ?_
    refine rU (h_lit (vl := []) (cs := []) uT23 ty3 rfl dC (by first | (simp [Instr.fill, Value.cells]; done) | rfl | kernel_rfl)) ?_
    rintro _ w201 ⟨b202, rfl, hs205, hb204, he203⟩
    have ge_b202 := hE.ge hs205
    have gk_b202 := hEk.ge hs205
    replace hE := hE.nx he203
    replace hEk := hEk.nx he203
    have hQ := Oi.room (lo := w175.heap.size) hb204 gk_b202
    refine mV (v := vp) ((hoff34 3 rfl).trans ((hF31 3).trans hs15)) (mV hs35 ?_)
    replace hPo := hPo.tr (Sm.ext he203)
    have r206 := hPo.take (a) oM hv27
    refine rV (r_sh (h := (a : Int)) (kk := a) uT23 ty3 hv27 rfl oM oM) ?_
    refine rU (h_appendIs (v1 := (.slice (some ⟨b202, 0, none⟩) 0 0)) (v2 := (.slice A25 (a) (c26))) (xs := []) (ys := (cl.take (a))) uT23 ty3 rfl rfl rfl hQ r206 (by simp only [maxLen]; rw [List.length_take]; simp only [List.length_nil]; omega) (by rw [List.length_take]; simp only [List.length_nil]; omega) hEk.size) ?_
    rintro v208 w207 ⟨ho209, hg210⟩
    replace hE := hQ.gbe hg210 hE hlo hE.size
    replace hEk := hQ.gbe hg210 hEk (Nat.le_refl _) hEk.size
    refine aS (v := v208) rfl (RL.nil (wsr (mV (v := v208) rfl (mV (v := ves) ((hoff34 5 rfl).trans ((hF31 5).trans ((hoff13 5 rfl).trans (hF10 5)))) (mV (v := (iv k)) ((hoff34 6 rfl).trans ((hF31 6).trans hs14)) ?_)))))
    replace hes := (hes.tr (Sm.ext he203)).tr (hQ.gsm hg210 (fun b hb hd => absurd hd.2 (Nat.not_lt_of_le (Nat.le_trans hlo hb))))
    obtain ⟨b211, o212, c213, s218, A216, B217, x219, d220, hv214, hc215, hx221, lm222, ln223, hd224, lm225, ln226, eq227⟩ := hes.ix (i := (k : Int)) (k) oM oM
    refine rV (r_indexAddr (i := (k : Int)) uT22 ty55 hv214 rfl oM oM) (rV (r_fieldAddr uT55 rfl ty3 rfl) (rV (r_load (v := (iv ((es.getD (k) default).1))) uT3 ag3 rfl (hc215 0 _ rfl)) ?_))
    refine rU (h_lit (vl := [(0, (iv ((es.getD (k) default).1)))]) (cs := [(iv ((es.getD (k) default).1))]) uT23 ty3 rfl dC (by first | (simp [Instr.fill, Value.cells]; done) | rfl | kernel_rfl)) ?_
    rintro _ w228 ⟨b229, rfl, hs232, hb231, he230⟩
    have ge_b229 := hE.ge hs232
    have gk_b229 := hEk.ge hs232
    have on_v208_b229 : v208.ownBlock ≠ some b229 := fun h => absurd (ho209.lt _ h) (by rw [hs232]; exact Nat.lt_irrefl _)
    replace hE := hE.nx he230
    replace hEk := hEk.nx he230
    replace ho209 := ho209.ext he230
    refine rU (h_appendI (v1 := v208) (v2 := (.slice (some ⟨b229, 0, none⟩) (1) (1))) (i0 := (es.getD (k) default).1) uT23 ty3 rfl rfl rfl ho209 (hb231.sc (D := fun _ _ => True) trivial rfl dC) (by simp only [maxLen]; simp only [List.length_append, List.length_nil, List.length_take]; omega) (by simp only [List.length_append, List.length_nil, List.length_take]; omega) hEk.size) ?_
    rintro v234 w233 ⟨ho235, hg236⟩
    replace hE := ho209.gbe hg236 hE hlo hE.size
    replace hEk := ho209.gbe hg236 hEk (Nat.le_refl _) hEk.size
    refine aS (v := v234) rfl (RL.nil (wregion (mV (v := v234) rfl (mV (v := vp) ((hoff34 3 rfl).trans ((hF31 3).trans hs15)) (mV hs35 ?_)))))
    replace hPo := ((hPo.tr (hQ.gsm hg210 (fun b hb hd => absurd hd.2 (Nat.not_lt_of_le hb)))).tr (Sm.ext he230)).tr (ho209.gsm hg236 (fun b hb hd => absurd hd.2 (Nat.not_lt_of_le hb)))
    have r237 := hPo.drop (a) oM hv27
    refine rV (r_sl (l := (a : Int)) (kk := a) uT23 ty3 hv27 rfl oM oM) ?_
    refine rU (h_appendIs (v1 := v234) (v2 := (.slice (if c26 = a then (A25 : Option Addr) else (A25 : Option Addr).map (·.add (a * 1))) (cl.length - a) (c26 - a))) (xs := (([] ++ (cl.take (a))) ++ [(es.getD (k) default).1])) (ys := (cl.drop (a))) uT23 ty3 rfl rfl rfl ho235 r237 (by simp only [maxLen]; simp only [List.length_append, List.length_nil, List.length_take, List.length_drop, List.length_singleton]; omega) (by simp only [List.length_append, List.length_nil, List.length_take, List.length_drop, List.length_singleton]; omega) hEk.size) ?_
    rintro v239 w238 ⟨ho240, hg241⟩
    replace hE := ho235.gbe hg241 hE hlo hE.size
    replace hEk := ho235.gbe hg241 hEk (Nat.le_refl _) hEk.size
    refine aS (v := v239) rfl (RL.nil (wregion (mV (v := (iv k)) ((hoff34 6 rfl).trans ((hF31 6).trans hs14)) (rV (r_add (k := .i64) (a := (k : Int)) (b := 1) (c := (k : Int) + 1) rfl rfl (wi64 oM)) (aS (v := (iv ((k : Int) + 1))) rfl (RL.nil ?_))))))
    refine hqn16 _ _ ?_
    replace hes := ((hes.tr (Sm.ext he230)).tr (ho209.gsm hg236 (fun b hb hd => absurd hd.2 (Nat.not_lt_of_le (Nat.le_trans hlo hb))))).tr (ho235.gsm hg241 (fun b hb hd => absurd hd.2 (Nat.not_lt_of_le (Nat.le_trans hlo hb))))
    have hm242 := Ext.trans he40 (Ext.trans he176 he203)
    replace hbl := ho235.gbk hg241 (ho209.gbk hg236 ((hQ.gbk hg210 (hbl.ext hm242) dC).ext he230) dC) dC
    refine ⟨(k + 1, ((([] ++ (cl.take (a))) ++ [(es.getD (k) default).1]) ++ (cl.drop (a))), v239), ⟨?_, ?_, ?_, ?_, ?_, ?_, ?_, ?_, ?_, ?_⟩, ?_⟩
    · exact (by repeat (first | exact hoff13 | refine Off.st ?_ dC _ | refine Off.via hoff34 dC ?_ | refine Off.eq hF31 ?_ | refine Off.via hoff5 dC ?_ | refine Off.eq hF2 ?_))
    · first | rfl | exact int_eq oM | exact bool_eq (by simp)
    · first | rfl | exact int_eq oM | exact bool_eq (by simp)
    · omega
    · exact ix_new hkl hK oM hlt (ge_dp hK.1 hge hne)
    · simp only [List.length_append, List.length_nil, List.length_take, List.length_drop, List.length_singleton]; omega
    · exact ho240.sg (fun _ h => Nat.le_trans hlo h)
    · exact hes
    · exact hE
    · exact hbl
    (try dsimp only)
    omega
   have hne : a < cl.length → ¬ cl.getD a default = (es.getD (k) default).1 := fun h => by omega
   refine RA.gno 5 rfl kR rfl rfl (.inl (bool_eq hb177)) rfl dC ?_
   refine RA.gno 6 rfl kR rfl rfl (.inl (bool_eq hb177)) rfl dC ?_
   refine RA.gno 7 rfl kR rfl rfl (.inl (bool_eq hb177)) rfl dC ?_
   refine RA.gno 8 rfl kR rfl rfl (.inl (bool_eq hb177)) rfl dC ?_
   refine RA.gno 9 rfl kR rfl rfl (.inl (bool_eq hb177)) rfl dC ?_
   refine RA.gno 10 rfl kR rfl rfl (.inl (bool_eq hb177)) rfl dC ?_
   refine RA.gno 11 rfl kR rfl rfl (.inl (bool_eq hb177)) rfl dC ?_
   refine RA.gno 12 rfl kR rfl rfl (.inl (bool_eq hb177)) rfl dC ?_
   refine RA.gno 13 rfl kR rfl rfl (.inl (bool_eq hb177)) rfl dC ?_
   refine RA.gno 14 rfl kR rfl rfl (.inl (bool_eq hb177)) rfl dC ?_
   refine ra 15 rfl (fun _ => r_pick_f (v := (.bool false)) (bool_eq hb177) rfl) ?_
   refine RA.done kR ?_
   refine wcond_f rfl ?_
   refine wskip ?_
   refine wseq ?_
   replace hP := hP.tr (Sm.ext (Ext.trans he40 he176))
   have hPo := hP.old
   have hlo : w.heap.size ≤ w175.heap.size := hE.size
   have hEk : Below w175.heap.size w175 w175 := Below.refl _ _
   refine wregion ?_
   refine rU (h_lit (vl := []) (cs := []) uT23 ty3 rfl dC (by first | (simp [Instr.fill, Value.cells]; done) | rfl | kernel_rfl)) ?_
   rintro _ w243 ⟨b244, rfl, hs247, hb246, he245⟩
   have ge_b244 := hE.ge hs247
   have gk_b244 := hEk.ge hs247
   replace hE := hE.nx he245
   replace hEk := hEk.nx he245
   have hQ := Oi.room (lo := w175.heap.size) hb246 gk_b244
   refine mV (v := vp) ((hoff34 3 rfl).trans ((hF31 3).trans hs15)) (mV hs35 ?_)
   replace hPo := hPo.tr (Sm.ext he245)
   have r248 := hPo.take (a) oM hv27
   refine rV (r_sh (h := (a : Int)) (kk := a) uT23 ty3 hv27 rfl oM oM) ?_
   refine rU (h_appendIs (v1 := (.slice (some ⟨b244, 0, none⟩) 0 0)) (v2 := (.slice A25 (a) (c26))) (xs := []) (ys := (cl.take (a))) uT23 ty3 rfl rfl rfl hQ r248 (by simp only [maxLen]; rw [List.length_take]; simp only [List.length_nil]; omega) (by rw [List.length_take]; simp only [List.length_nil]; omega) hEk.size) ?_
   rintro v250 w249 ⟨ho251, hg252⟩
   replace hE := hQ.gbe hg252 hE hlo hE.size
   replace hEk := hQ.gbe hg252 hEk (Nat.le_refl _) hEk.size
   refine aS (v := v250) rfl (RL.nil (wsr (mV (v := v250) rfl (mV (v := ves) ((hoff34 5 rfl).trans ((hF31 5).trans ((hoff13 5 rfl).trans (hF10 5)))) (mV (v := (iv k)) ((hoff34 6 rfl).trans ((hF31 6).trans hs14)) ?_)))))
   have hm270 := Ext.trans he40 (Ext.trans he176 he245)
   replace hes := (hes.tr (Sm.ext hm270)).tr (hQ.gsm hg252 (fun b hb hd => absurd hd.2 (Nat.not_lt_of_le (Nat.le_trans hlo hb))))
   obtain ⟨b253, o254, c255, s260, A258, B259, x261, d262, hv256, hc257, hx263, lm264, ln265, hd266, lm267, ln268, eq269⟩ := hes.ix (i := (k : Int)) (k) oM oM
   refine rV (r_indexAddr (i := (k : Int)) uT22 ty55 hv256 rfl oM oM) (rV (r_fieldAddr uT55 rfl ty3 rfl) (rV (r_load (v := (iv ((es.getD (k) default).1))) uT3 ag3 rfl (hc257 0 _ rfl)) ?_))
   refine rU (h_lit (vl := [(0, (iv ((es.getD (k) default).1)))]) (cs := [(iv ((es.getD (k) default).1))]) uT23 ty3 rfl dC (by first | (simp [Instr.fill, Value.cells]; done) | rfl | kernel_rfl)) ?_
   rintro _ w271 ⟨b272, rfl, hs275, hb274, he273⟩
   have ge_b272 := hE.ge hs275
   have gk_b272 := hEk.ge hs275
   have on_v250_b272 : v250.ownBlock ≠ some b272 := fun h => absurd (ho251.lt _ h) (by rw [hs275]; exact Nat.lt_irrefl _)
   replace hE := hE.nx he273
   replace hEk := hEk.nx he273
   replace ho251 := ho251.ext he273
   refine rU (h_appendI (v1 := v250) (v2 := (.slice (some ⟨b272, 0, none⟩) (1) (1))) (i0 := (es.getD (k) default).1) uT23 ty3 rfl rfl rfl ho251 (hb274.sc (D := fun _ _ => True) trivial rfl dC) (by simp only [maxLen]; simp only [List.length_append, List.length_nil, List.length_take]; omega) (by simp only [List.length_append, List.length_nil, List.length_take]; omega) hEk.size) ?_
   rintro v277 w276 ⟨ho278, hg279⟩
   replace hE := ho251.gbe hg279 hE hlo hE.size
   replace hEk := ho251.gbe hg279 hEk (Nat.le_refl _) hEk.size
   refine aS (v := v277) rfl (RL.nil (wregion (mV (v := v277) rfl (mV (v := vp) ((hoff34 3 rfl).trans ((hF31 3).trans hs15)) (mV hs35 ?_)))))
   replace hPo := ((hPo.tr (hQ.gsm hg252 (fun b hb hd => absurd hd.2 (Nat.not_lt_of_le hb)))).tr (Sm.ext he273)).tr (ho251.gsm hg279 (fun b hb hd => absurd hd.2 (Nat.not_lt_of_le hb)))
   have r280 := hPo.drop (a) oM hv27
   refine rV (r_sl (l := (a : Int)) (kk := a) uT23 ty3 hv27 rfl oM oM) ?_
   refine rU (h_appendIs (v1 := v277) (v2 := (.slice (if c26 = a then (A25 : Option Addr) else (A25 : Option Addr).map (·.add (a * 1))) (cl.length - a) (c26 - a))) (xs := (([] ++ (cl.take (a))) ++ [(es.getD (k) default).1])) (ys := (cl.drop (a))) uT23 ty3 rfl rfl rfl ho278 r280 (by simp only [maxLen]; simp only [List.length_append, List.length_nil, List.length_take, List.length_drop, List.length_singleton]; omega) (by simp only [List.length_append, List.length_nil, List.length_take, List.length_drop, List.length_singleton]; omega) hEk.size) ?_
   rintro v282 w281 ⟨ho283, hg284⟩
   replace hE := ho278.gbe hg284 hE hlo hE.size
   replace hEk := ho278.gbe hg284 hEk (Nat.le_refl _) hEk.size
   refine aS (v := v282) rfl (RL.nil (wregion (mV (v := (iv k)) ((hoff34 6 rfl).trans ((hF31 6).trans hs14)) (rV (r_add (k := .i64) (a := (k : Int)) (b := 1) (c := (k : Int) + 1) rfl rfl (wi64 oM)) (aS (v := (iv ((k : Int) + 1))) rfl (RL.nil ?_))))))
   refine hqn16 _ _ ?_
   replace hes := ((hes.tr (Sm.ext he273)).tr (ho251.gsm hg279 (fun b hb hd => absurd hd.2 (Nat.not_lt_of_le (Nat.le_trans hlo hb))))).tr (ho278.gsm hg284 (fun b hb hd => absurd hd.2 (Nat.not_lt_of_le (Nat.le_trans hlo hb))))
   replace hbl := ho278.gbk hg284 (ho251.gbk hg279 ((hQ.gbk hg252 (hbl.ext hm270) dC).ext he273) dC) dC
   refine ⟨(k + 1, ((([] ++ (cl.take (a))) ++ [(es.getD (k) default).1]) ++ (cl.drop (a))), v282), ⟨?_, ?_, ?_, ?_, ?_, ?_, ?_, ?_, ?_, ?_⟩, ?_⟩
   · exact (by repeat (first | exact hoff13 | refine Off.st ?_ dC _ | refine Off.via hoff34 dC ?_ | refine Off.eq hF31 ?_ | refine Off.via hoff5 dC ?_ | refine Off.eq hF2 ?_))
   · first | rfl | exact int_eq oM | exact bool_eq (by simp)
   · first | rfl | exact int_eq oM | exact bool_eq (by simp)
   · omega
   · exact ix_new hkl hK oM hlt (ge_dp hK.1 hge hne)
   · simp only [List.length_append, List.length_nil, List.length_take, List.length_drop, List.length_singleton]; omega
   · exact ho283.sg (fun _ h => Nat.le_trans hlo h)
   · exact hes
   · exact hE
   · exact hbl
   (try dsimp only)
   omega
  refine wexit ?_
  refine hqe17 _ _ _ ?_
  refine wregion (rV (r_add (k := .i64) (a := (j : Int)) (b := 1) (c := (j : Int) + 1) ((hoff13 11 rfl).trans ((hF10 11).trans hs6)) rfl (wi64 oM)) (mV (v := (iv ((j : Int) + 1))) rfl (RL.nil ?_)))
  refine ⟨(j + 1, cl, vp), ⟨?_, ?_, ?_, ?_, ?_, ?_, ?_, ?_, ?_, ?_⟩, ?_⟩
  · exact (by repeat (first | exact hoff5 | refine Off.st ?_ dC _ | refine Off.via hoff13 dC ?_ | refine Off.eq hF10 ?_))
  · first | rfl | exact int_eq oM | exact bool_eq (by simp)
  · refine (hs15).trans ?_
    first | rfl | exact int_eq oM | exact bool_eq (by simp)
  · omega
  · rw [show (j + 1) * es.length = es.length by rw [show j = 0 by omega]; omega, List.take_of_length_le (Nat.le_refl _)]; rw [List.take_of_length_le oM] at hK; exact hK
  · omega
  · exact hP
  · exact hes
  · exact hE
  · exact hbl
  (try dsimp only)
  omega
 refine wexit ?_
 refine wsr (mV hs7 (aS (v := vp) rfl (RL.nil ?_)))
 refine wret ?_
 refine ⟨[vp], ⟨rfl, trivial⟩, ?_⟩
 rw [show j * es.length = es.length by rw [show j = 1 by omega]; omega, List.take_of_length_le (Nat.le_refl _)] at hI
 exact ⟨⟨cl, hI, hcl, hP⟩, hE⟩
end Go.Proofs.YtelbjmhhbeijkaaGreat
namespace Go.Proofs.YtelbjmhhbeijkaaGreat
open Go.Vg Go.RowKit _root_.Go.Proofs.Tryz
set_option linter.unusedVariables false
open Go.Vm
set_option maxHeartbeats 4000000 in
theorem r03_add {w : World} {sx : Bool} {Dx Ex : Nat → TypeId → Prop} {vx ux : Value} {x dx : List Nat} (hx : Sg (gN .u32) Dx w vx x) (lmx : Lm x) (lnx : x.length ≤ 17179869184) (hdx : Sg (gN .u32) Ex w ux dx) (lmdx : Lm dx) (lndx : dx.length ≤ 17179869184) {qx : Rat} (ex : ratOf sx (val x) (val dx) = qx) {sy : Bool} {Dy Ey : Nat → TypeId → Prop} {vy uy : Value} {y dy : List Nat} (hy : Sg (gN .u32) Dy w vy y) (lmy : Lm y) (lny : y.length ≤ 17179869184) (hdy : Sg (gN .u32) Ey w uy dy) (lmdy : Lm dy) (lndy : dy.length ≤ 17179869184) {qy : Rat} (ey : ratOf sy (val y) (val dy) = qy) :
    Calls Tryz.prog 63 #[(.agg #[(.bool sx), vx, ux]), (.agg #[(.bool sy), vy, uy])] w fun e w' => ∃ v, e = .returned v ∧ (∃ vn vd, v = .agg #[.bool (decide ((qx + qy).num < 0)), vn, vd] ∧ Sg (gN .u32) (fun b T => w.heap.size ≤ b ∧ T = 89) w' vn (digs (qx + qy).num.natAbs) ∧ Sg (gN .u32) (fun b T => w.heap.size ≤ b ∧ T = 89) w' vd (digs (qx + qy).den) ∧ (digs (qx + qy).num.natAbs).length ≤ max (x.length + dy.length) (y.length + dx.length) + 2 ∧ (digs (qx + qy).den).length ≤ dx.length + dy.length + 3) ∧ Ext w w' := by
 have hE : Below w.heap.size w w := Below.refl _ _
 have hlqx := rl_of lmx lmdx ex
 have hdqx := den_one qx
 have hlqy := rl_of lmy lmdy ey
 have hdqy := den_one qy
 refine calls_of (n := 28) (rs := [.cell 4 44]) func63 rfl rfl rfl bL ?_
 refine wset fun F0 hF0 => ?_
 refine wsr ?_
 refine rU (h_box (vv := (.agg #[(.bool sx), vx, ux])) (cs := [(.bool sx), vx, ux]) (hF0 0) rfl) ?_
 rintro _ w1 ⟨b2, rfl, hs5, hb4, he3⟩
 have ge_b2 := hE.ge hs5
 replace hE := hE.nx he3
 refine rU (h_box (vv := (.agg #[(.bool sy), vy, uy])) (cs := [(.bool sy), vy, uy]) (hF0 1) rfl) ?_
 rintro _ w6 ⟨b7, rfl, hs10, hb9, he8⟩
 have lt_b2_b7 := Nat.lt_of_lt_of_eq hb4.lt hs10.symm
 have ge_b7 := hE.ge hs10
 replace hE := hE.nx he8
 refine rU (h_alloc (cs := [(.bool false), (.slice none 0 0), (.slice none 0 0)]) ty44 rfl) ?_
 rintro _ w11 ⟨b12, rfl, hs15, hb14, he13⟩
 have lt_b7_b12 := Nat.lt_of_lt_of_eq hb9.lt hs15.symm
 have ge_b12 := hE.ge hs15
 replace hE := hE.nx he13
 refine RL.nil ?_
 refine wset fun F16 hF17 => ?_
 refine wcut (fun fl wl => ∃ b44 : Nat, ∃ b50 : Nat, ∃ vn25 : Value, ∃ vd27 : Value, ∃ vn35 : Value, ∃ vd37 : Value, Off [5, 6, 7, 8, 9, 10] F16 fl ∧ fl 5 = (.pointer (some ⟨b44, 0, none⟩)) ∧ fl 6 = (.pointer (some ⟨b50, 0, none⟩)) ∧ (w.heap.size ≤ b44) ∧ (b12 < b44) ∧ (w.heap.size ≤ b50) ∧ (b12 < b50) ∧ (b44 ≠ b50) ∧ (Sg (gN .u32) Dx wl vx x) ∧ (Sg (gN .u32) Dy wl vy y) ∧ (Sg (gN .u32) Ex wl ux dx) ∧ (Sg (gN .u32) Ey wl uy dy) ∧ (Below w.heap.size w wl) ∧ (Bk wl b2 44 [(.bool sx), vx, ux]) ∧ (Bk wl b7 44 [(.bool sy), vy, uy]) ∧ (Bk wl b12 44 [(.bool false), (.slice none 0 0), (.slice none 0 0)]) ∧ (Sg (gN .u32) (fun b T => w.heap.size ≤ b ∧ T = 89) wl vn25 (digs qx.num.natAbs)) ∧ (Sg (gN .u32) (fun b T => w.heap.size ≤ b ∧ T = 89) wl vd27 (digs qx.den)) ∧ (Sg (gN .u32) (fun b T => w.heap.size ≤ b ∧ T = 89) wl vn35 (digs qy.num.natAbs)) ∧ (Sg (gN .u32) (fun b T => w.heap.size ≤ b ∧ T = 89) wl vd37 (digs qy.den)) ∧ (Bk wl b44 44 [(bd (qx.num < 0)), vn25, vd27]) ∧ (Bk wl b50 44 [(bd (qy.num < 0)), vn35, vd37])) ?_ ?_
 ·have hoff62 := Off.refl [5, 6, 7, 8, 9, 10] F16
  refine wdraw mixed fun w63 he64 => ?_
  replace hE := hE.nx he64
  have hm66 := Ext.trans he8 (Ext.trans he13 he64)
  replace hb4 := hb4.ext hm66
  have hc65 := hb4.cells (o := 0) (cs := [(.bool sx), vx, ux]) rfl
  refine RA.rd 0 rfl kR rfl rfl rfl dC (Ext.refl _) (fun u hu => r_loada (o := 0) (cs := [(.bool sx), vx, ux]) uT44 ag44 ty44 (hF17 2) (fun j v hj => cell_ext hu (hc65 j v hj))) ?_
  replace hb9 := hb9.ext (Ext.trans he13 he64)
  have hc67 := hb9.cells (o := 0) (cs := [(.bool sy), vy, uy]) rfl
  refine RA.rd 2 rfl kR rfl rfl rfl dC (Ext.refl _) (fun u hu => r_loada (o := 0) (cs := [(.bool sy), vy, uy]) uT44 ag44 ty44 (hF17 3) (fun j v hj => cell_ext hu (hc67 j v hj))) ?_
  refine RA.all [1, 4, 5] kR rfl ?_
  have hm76 := Ext.trans he3 (Ext.trans he8 (Ext.trans he13 he64))
  replace hx := hx.tr (Sm.ext hm76)
  replace hdx := hdx.tr (Sm.ext hm76)
  refine RS.call rfl rfl rfl dC (r_call (vl := [(.agg #[(.bool sx), vx, ux])]) ent48 rfl) (r03_norm hx (by assumption) oS hdx (by assumption) oS (show ratOf sx (val x) (val dx) = qx from ex)) ?_ ?_
  ·rintro _ w68 ⟨⟨vn70, vd72, rfl, hn71, hd73, hl74, hl75⟩, he69⟩
   refine rm he69 ?_
   have hlv77 := den_one qx
   replace hn71 := hn71.fr hE
   replace hd73 := hd73.fr hE
   replace hE := hE.nx he69
   refine RA.all [3, 4, 5] kR rfl ?_
   have hm86 := Ext.trans hm76 he69
   replace hy := hy.tr (Sm.ext hm86)
   replace hdy := hdy.tr (Sm.ext hm86)
   refine RS.call rfl rfl rfl dC (r_call (vl := [(.agg #[(.bool sy), vy, uy])]) ent48 rfl) (r03_norm hy (by assumption) oS hdy (by assumption) oS (show ratOf sy (val y) (val dy) = qy from ey)) ?_ ?_
   ·rintro _ w78 ⟨⟨vn80, vd82, rfl, hn81, hd83, hl84, hl85⟩, he79⟩
    refine rm he79 ?_
    have hlv87 := den_one qy
    replace hn81 := hn81.fr hE
    replace hd83 := hd83.fr hE
    replace hE := hE.nx he79
    refine RA.all [4, 5] kR rfl ?_
    refine RS.run rfl rfl rfl dC (h_alloc (cs := [(.bool false), (.slice none 0 0), (.slice none 0 0)]) ty44 rfl) ?_ ?_
    ·rintro _ w88 ⟨b89, rfl, hs92, hb91, he90⟩
     refine rm he90 ?_
     have hm93 := Ext.trans he64 (Ext.trans he69 he79)
     replace hb14 := hb14.ext hm93
     have lt_b12_b89 := Nat.lt_of_lt_of_eq hb14.lt hs92.symm
     have ge_b89 := hE.ge hs92
     replace hE := hE.nx he90
     refine RA.all [5] kR rfl ?_
     refine RS.run rfl rfl rfl dC (h_alloc (cs := [(.bool false), (.slice none 0 0), (.slice none 0 0)]) ty44 rfl) ?_ RS.nil
     rintro _ w94 ⟨b95, rfl, hs98, hb97, he96⟩
     refine rm he96 ?_
     have lt_b89_b95 := Nat.lt_of_lt_of_eq hb91.lt hs98.symm
     have ge_b95 := hE.ge hs98
     replace hE := hE.nx he96
     refine RA.all [6] kR rfl ?_
     replace hb91 := hb91.ext he96
     refine RS.runs rfl rfl rfl (h_store (vv := (.agg #[(bd (qx.num < 0)), vn70, vd72])) (cs := [(bd (qx.num < 0)), vn70, vd72]) (o := 0) ty44 rfl rfl rfl rfl (one_cons rfl (one_cons hn71.one (one_cons hd73.one one_nil))) hb91 bL) ?_ RS.nil
     rintro w99 ⟨hn100, hx101, hz102⟩
     refine ⟨.inr (.inl kR), ?_⟩
     replace hE := hE.nb hx101 ge_b89
     have nb_hx101 := (Nb.of hb91 (nu_cons rfl (nu_cons rfl (nu_cons rfl nu_nil))))
     replace hb91 : Bk w99 b89 44 [(bd (qx.num < 0)), vn70, vd72] := hn100
     refine RA.all [7] kR rfl ?_
     replace hb97 := hb97.exc hx101 (Nat.ne_of_gt lt_b89_b95)
     refine RS.runs rfl rfl rfl (h_store (vv := (.agg #[(bd (qy.num < 0)), vn80, vd82])) (cs := [(bd (qy.num < 0)), vn80, vd82]) (o := 0) ty44 rfl rfl rfl rfl (one_cons rfl (one_cons hn81.one (one_cons hd83.one one_nil))) hb97 bL) ?_ RS.nil
     rintro w103 ⟨hn104, hx105, hz106⟩
     refine ⟨.inr (.inl kR), ?_⟩
     replace hE := hE.nb hx105 ge_b95
     have nb_hx105 := (Nb.of hb97 (nu_cons rfl (nu_cons rfl (nu_cons rfl nu_nil))))
     replace hb97 : Bk w103 b95 44 [(bd (qy.num < 0)), vn80, vd82] := hn104
     refine RA.done kR ?_
     have hm107 := Ext.trans he69 (Ext.trans he79 (Ext.trans he90 he96))
     replace hx := ((hx.tr (Sm.ext hm107)).apn hx101 nb_hx101).apn hx105 nb_hx105
     have hm108 := Ext.trans he79 (Ext.trans he90 he96)
     replace hy := ((hy.tr (Sm.ext hm108)).apn hx101 nb_hx101).apn hx105 nb_hx105
     replace hdx := ((hdx.tr (Sm.ext hm107)).apn hx101 nb_hx101).apn hx105 nb_hx105
     replace hdy := ((hdy.tr (Sm.ext hm108)).apn hx101 nb_hx101).apn hx105 nb_hx105
     replace hb4 := ((hb4.ext hm107).exc hx101 (Nat.ne_of_lt (Nat.lt_trans lt_b2_b7 (Nat.lt_trans lt_b7_b12 lt_b12_b89)))).exc hx105 (Nat.ne_of_lt (Nat.lt_trans lt_b2_b7 (Nat.lt_trans lt_b7_b12 (Nat.lt_trans lt_b12_b89 lt_b89_b95))))
     replace hb9 := ((hb9.ext hm107).exc hx101 (Nat.ne_of_lt (Nat.lt_trans lt_b7_b12 lt_b12_b89))).exc hx105 (Nat.ne_of_lt (Nat.lt_trans lt_b7_b12 (Nat.lt_trans lt_b12_b89 lt_b89_b95)))
     replace hb14 := ((hb14.ext (Ext.trans he90 he96)).exc hx101 (Nat.ne_of_lt lt_b12_b89)).exc hx105 (Nat.ne_of_lt (Nat.lt_trans lt_b12_b89 lt_b89_b95))
     replace hn71 := ((hn71.tr (Sm.ext hm108)).apn hx101 nb_hx101).apn hx105 nb_hx105
     replace hd73 := ((hd73.tr (Sm.ext hm108)).apn hx101 nb_hx101).apn hx105 nb_hx105
     replace hn81 := ((hn81.tr (Sm.ext (Ext.trans he90 he96))).apn hx101 nb_hx101).apn hx105 nb_hx105
     replace hd83 := ((hd83.tr (Sm.ext (Ext.trans he90 he96))).apn hx101 nb_hx101).apn hx105 nb_hx105
     replace hb91 := hb91.exc hx105 (Nat.ne_of_lt lt_b89_b95)
     refine ⟨b89, b95, vn70, vd72, vn80, vd82, ?_, ?_, ?_, ?_, ?_, ?_, ?_, ?_, ?_, ?_, ?_, ?_, ?_, ?_, ?_, ?_, ?_, ?_, ?_, ?_, ?_, ?_⟩
     · exact (by repeat (first | exact hoff62 | refine Off.st ?_ dC _))
     · exact rfl
     · exact rfl
     · exact ge_b89
     · exact lt_b12_b89
     · exact ge_b95
     · exact (Nat.lt_trans lt_b12_b89 lt_b89_b95)
     · exact (Nat.ne_of_lt lt_b89_b95)
     · exact hx
     · exact hy
     · exact hdx
     · exact hdy
     · exact hE
     · exact hb4
     · exact hb9
     · exact hb14
     · exact hn71
     · exact hd73
     · exact hn81
     · exact hd83
     · exact hb91
     exact hb97
    refine RS.run rfl rfl rfl dC (h_alloc (cs := [(.bool false), (.slice none 0 0), (.slice none 0 0)]) ty44 rfl) ?_ RS.nil
    rintro _ w109 ⟨b110, rfl, hs113, hb112, he111⟩
    refine rm he111 ?_
    have hm114 := Ext.trans he64 (Ext.trans he69 he79)
    replace hb14 := hb14.ext hm114
    have lt_b12_b110 := Nat.lt_of_lt_of_eq hb14.lt hs113.symm
    have ge_b110 := hE.ge hs113
    replace hE := hE.nx he111
    refine RA.all [4] kR rfl ?_
    refine RS.run rfl rfl rfl dC (h_alloc (cs := [(.bool false), (.slice none 0 0), (.slice none 0 0)]) ty44 rfl) ?_ RS.nil
    rintro _ w115 ⟨b116, rfl, hs119, hb118, he117⟩
    refine rm he117 ?_
    have lt_b110_b116 := Nat.lt_of_lt_of_eq hb112.lt hs119.symm
    have ge_b116 := hE.ge hs119
    replace hE := hE.nx he117
    refine RA.all [6] kR rfl ?_
    refine RS.runs rfl rfl rfl (h_store (vv := (.agg #[(bd (qx.num < 0)), vn70, vd72])) (cs := [(bd (qx.num < 0)), vn70, vd72]) (o := 0) ty44 rfl rfl rfl rfl (one_cons rfl (one_cons hn71.one (one_cons hd73.one one_nil))) hb118 bL) ?_ RS.nil
    rintro w120 ⟨hn121, hx122, hz123⟩
    refine ⟨.inr (.inl kR), ?_⟩
    replace hE := hE.nb hx122 ge_b116
    have nb_hx122 := (Nb.of hb118 (nu_cons rfl (nu_cons rfl (nu_cons rfl nu_nil))))
    replace hb118 : Bk w120 b116 44 [(bd (qx.num < 0)), vn70, vd72] := hn121
    refine RA.all [7] kR rfl ?_
    replace hb112 := (hb112.ext he117).exc hx122 (Nat.ne_of_lt lt_b110_b116)
    refine RS.runs rfl rfl rfl (h_store (vv := (.agg #[(bd (qy.num < 0)), vn80, vd82])) (cs := [(bd (qy.num < 0)), vn80, vd82]) (o := 0) ty44 rfl rfl rfl rfl (one_cons rfl (one_cons hn81.one (one_cons hd83.one one_nil))) hb112 bL) ?_ RS.nil
    rintro w124 ⟨hn125, hx126, hz127⟩
    refine ⟨.inr (.inl kR), ?_⟩
    replace hE := hE.nb hx126 ge_b110
    have nb_hx126 := (Nb.of hb112 (nu_cons rfl (nu_cons rfl (nu_cons rfl nu_nil))))
    replace hb112 : Bk w124 b110 44 [(bd (qy.num < 0)), vn80, vd82] := hn125
    refine RA.done kR ?_
    have hm128 := Ext.trans he69 (Ext.trans he79 (Ext.trans he111 he117))
    replace hx := ((hx.tr (Sm.ext hm128)).apn hx122 nb_hx122).apn hx126 nb_hx126
    have hm129 := Ext.trans he79 (Ext.trans he111 he117)
    replace hy := ((hy.tr (Sm.ext hm129)).apn hx122 nb_hx122).apn hx126 nb_hx126
    replace hdx := ((hdx.tr (Sm.ext hm128)).apn hx122 nb_hx122).apn hx126 nb_hx126
    replace hdy := ((hdy.tr (Sm.ext hm129)).apn hx122 nb_hx122).apn hx126 nb_hx126
    replace hb4 := ((hb4.ext hm128).exc hx122 (Nat.ne_of_lt (Nat.lt_trans lt_b2_b7 (Nat.lt_trans lt_b7_b12 (Nat.lt_trans lt_b12_b110 lt_b110_b116))))).exc hx126 (Nat.ne_of_lt (Nat.lt_trans lt_b2_b7 (Nat.lt_trans lt_b7_b12 lt_b12_b110)))
    replace hb9 := ((hb9.ext hm128).exc hx122 (Nat.ne_of_lt (Nat.lt_trans lt_b7_b12 (Nat.lt_trans lt_b12_b110 lt_b110_b116)))).exc hx126 (Nat.ne_of_lt (Nat.lt_trans lt_b7_b12 lt_b12_b110))
    replace hb14 := ((hb14.ext (Ext.trans he111 he117)).exc hx122 (Nat.ne_of_lt (Nat.lt_trans lt_b12_b110 lt_b110_b116))).exc hx126 (Nat.ne_of_lt lt_b12_b110)
    replace hn71 := ((hn71.tr (Sm.ext hm129)).apn hx122 nb_hx122).apn hx126 nb_hx126
    replace hd73 := ((hd73.tr (Sm.ext hm129)).apn hx122 nb_hx122).apn hx126 nb_hx126
    replace hn81 := ((hn81.tr (Sm.ext (Ext.trans he111 he117))).apn hx122 nb_hx122).apn hx126 nb_hx126
    replace hd83 := ((hd83.tr (Sm.ext (Ext.trans he111 he117))).apn hx122 nb_hx122).apn hx126 nb_hx126
    replace hb118 := hb118.exc hx126 (Nat.ne_of_gt lt_b110_b116)
    refine ⟨b116, b110, vn70, vd72, vn80, vd82, ?_, ?_, ?_, ?_, ?_, ?_, ?_, ?_, ?_, ?_, ?_, ?_, ?_, ?_, ?_, ?_, ?_, ?_, ?_, ?_, ?_, ?_⟩
    · exact (by repeat (first | exact hoff62 | refine Off.st ?_ dC _))
    · exact rfl
    · exact rfl
    · exact ge_b116
    · exact (Nat.lt_trans lt_b12_b110 lt_b110_b116)
    · exact ge_b110
    · exact lt_b12_b110
    · exact (Nat.ne_of_gt lt_b110_b116)
    · exact hx
    · exact hy
    · exact hdx
    · exact hdy
    · exact hE
    · exact hb4
    · exact hb9
    · exact hb14
    · exact hn71
    · exact hd73
    · exact hn81
    · exact hd83
    · exact hb118
    exact hb112
   refine RS.run rfl rfl rfl dC (h_alloc (cs := [(.bool false), (.slice none 0 0), (.slice none 0 0)]) ty44 rfl) ?_ ?_
   ·rintro _ w130 ⟨b131, rfl, hs134, hb133, he132⟩
    refine rm he132 ?_
    replace hb14 := hb14.ext (Ext.trans he64 he69)
    have lt_b12_b131 := Nat.lt_of_lt_of_eq hb14.lt hs134.symm
    have ge_b131 := hE.ge hs134
    replace hE := hE.nx he132
    refine RA.all [3, 5] kR rfl ?_
    replace hy := hy.tr (Sm.ext he132)
    replace hdy := hdy.tr (Sm.ext he132)
    refine RS.call rfl rfl rfl dC (r_call (vl := [(.agg #[(.bool sy), vy, uy])]) ent48 rfl) (r03_norm hy (by assumption) oS hdy (by assumption) oS (show ratOf sy (val y) (val dy) = qy from ey)) ?_ ?_
    ·rintro _ w135 ⟨⟨vn137, vd139, rfl, hn138, hd140, hl141, hl142⟩, he136⟩
     refine rm he136 ?_
     have hlv143 := den_one qy
     replace hn138 := hn138.fr hE
     replace hd140 := hd140.fr hE
     replace hE := hE.nx he136
     refine RA.all [5] kR rfl ?_
     refine RS.run rfl rfl rfl dC (h_alloc (cs := [(.bool false), (.slice none 0 0), (.slice none 0 0)]) ty44 rfl) ?_ RS.nil
     rintro _ w144 ⟨b145, rfl, hs148, hb147, he146⟩
     refine rm he146 ?_
     replace hb133 := hb133.ext he136
     have lt_b131_b145 := Nat.lt_of_lt_of_eq hb133.lt hs148.symm
     have ge_b145 := hE.ge hs148
     replace hE := hE.nx he146
     refine RA.all [6] kR rfl ?_
     replace hb133 := hb133.ext he146
     refine RS.runs rfl rfl rfl (h_store (vv := (.agg #[(bd (qx.num < 0)), vn70, vd72])) (cs := [(bd (qx.num < 0)), vn70, vd72]) (o := 0) ty44 rfl rfl rfl rfl (one_cons rfl (one_cons hn71.one (one_cons hd73.one one_nil))) hb133 bL) ?_ RS.nil
     rintro w149 ⟨hn150, hx151, hz152⟩
     refine ⟨.inr (.inl kR), ?_⟩
     replace hE := hE.nb hx151 ge_b131
     have nb_hx151 := (Nb.of hb133 (nu_cons rfl (nu_cons rfl (nu_cons rfl nu_nil))))
     replace hb133 : Bk w149 b131 44 [(bd (qx.num < 0)), vn70, vd72] := hn150
     refine RA.all [7] kR rfl ?_
     replace hb147 := hb147.exc hx151 (Nat.ne_of_gt lt_b131_b145)
     refine RS.runs rfl rfl rfl (h_store (vv := (.agg #[(bd (qy.num < 0)), vn137, vd139])) (cs := [(bd (qy.num < 0)), vn137, vd139]) (o := 0) ty44 rfl rfl rfl rfl (one_cons rfl (one_cons hn138.one (one_cons hd140.one one_nil))) hb147 bL) ?_ RS.nil
     rintro w153 ⟨hn154, hx155, hz156⟩
     refine ⟨.inr (.inl kR), ?_⟩
     replace hE := hE.nb hx155 ge_b145
     have nb_hx155 := (Nb.of hb147 (nu_cons rfl (nu_cons rfl (nu_cons rfl nu_nil))))
     replace hb147 : Bk w153 b145 44 [(bd (qy.num < 0)), vn137, vd139] := hn154
     refine RA.done kR ?_
     have hm157 := Ext.trans he69 (Ext.trans he132 (Ext.trans he136 he146))
     replace hx := ((hx.tr (Sm.ext hm157)).apn hx151 nb_hx151).apn hx155 nb_hx155
     replace hy := ((hy.tr (Sm.ext (Ext.trans he136 he146))).apn hx151 nb_hx151).apn hx155 nb_hx155
     replace hdx := ((hdx.tr (Sm.ext hm157)).apn hx151 nb_hx151).apn hx155 nb_hx155
     replace hdy := ((hdy.tr (Sm.ext (Ext.trans he136 he146))).apn hx151 nb_hx151).apn hx155 nb_hx155
     replace hb4 := ((hb4.ext hm157).exc hx151 (Nat.ne_of_lt (Nat.lt_trans lt_b2_b7 (Nat.lt_trans lt_b7_b12 lt_b12_b131)))).exc hx155 (Nat.ne_of_lt (Nat.lt_trans lt_b2_b7 (Nat.lt_trans lt_b7_b12 (Nat.lt_trans lt_b12_b131 lt_b131_b145))))
     replace hb9 := ((hb9.ext hm157).exc hx151 (Nat.ne_of_lt (Nat.lt_trans lt_b7_b12 lt_b12_b131))).exc hx155 (Nat.ne_of_lt (Nat.lt_trans lt_b7_b12 (Nat.lt_trans lt_b12_b131 lt_b131_b145)))
     have hm158 := Ext.trans he132 (Ext.trans he136 he146)
     replace hb14 := ((hb14.ext hm158).exc hx151 (Nat.ne_of_lt lt_b12_b131)).exc hx155 (Nat.ne_of_lt (Nat.lt_trans lt_b12_b131 lt_b131_b145))
     replace hn71 := ((hn71.tr (Sm.ext hm158)).apn hx151 nb_hx151).apn hx155 nb_hx155
     replace hd73 := ((hd73.tr (Sm.ext hm158)).apn hx151 nb_hx151).apn hx155 nb_hx155
     replace hn138 := ((hn138.tr (Sm.ext he146)).apn hx151 nb_hx151).apn hx155 nb_hx155
     replace hd140 := ((hd140.tr (Sm.ext he146)).apn hx151 nb_hx151).apn hx155 nb_hx155
     replace hb133 := hb133.exc hx155 (Nat.ne_of_lt lt_b131_b145)
     refine ⟨b131, b145, vn70, vd72, vn137, vd139, ?_, ?_, ?_, ?_, ?_, ?_, ?_, ?_, ?_, ?_, ?_, ?_, ?_, ?_, ?_, ?_, ?_, ?_, ?_, ?_, ?_, ?_⟩
     · exact (by repeat (first | exact hoff62 | refine Off.st ?_ dC _))
     · exact rfl
     · exact rfl
     · exact ge_b131
     · exact lt_b12_b131
     · exact ge_b145
     · exact (Nat.lt_trans lt_b12_b131 lt_b131_b145)
     · exact (Nat.ne_of_lt lt_b131_b145)
     · exact hx
     · exact hy
     · exact hdx
     · exact hdy
     · exact hE
     · exact hb4
     · exact hb9
     · exact hb14
     · exact hn71
     · exact hd73
     · exact hn138
     · exact hd140
     · exact hb133
     exact hb147
    refine RS.run rfl rfl rfl dC (h_alloc (cs := [(.bool false), (.slice none 0 0), (.slice none 0 0)]) ty44 rfl) ?_ RS.nil
    rintro _ w159 ⟨b160, rfl, hs163, hb162, he161⟩
    refine rm he161 ?_
    have lt_b131_b160 := Nat.lt_of_lt_of_eq hb133.lt hs163.symm
    have ge_b160 := hE.ge hs163
    replace hE := hE.nx he161
    refine RA.all [3] kR rfl ?_
    replace hy := hy.tr (Sm.ext he161)
    replace hdy := hdy.tr (Sm.ext he161)
    refine RS.call rfl rfl rfl dC (r_call (vl := [(.agg #[(.bool sy), vy, uy])]) ent48 rfl) (r03_norm hy (by assumption) oS hdy (by assumption) oS (show ratOf sy (val y) (val dy) = qy from ey)) ?_ RS.nil
    rintro _ w164 ⟨⟨vn166, vd168, rfl, hn167, hd169, hl170, hl171⟩, he165⟩
    refine rm he165 ?_
    have hlv172 := den_one qy
    replace hn167 := hn167.fr hE
    replace hd169 := hd169.fr hE
    replace hE := hE.nx he165
    refine RA.all [6] kR rfl ?_
    replace hb133 := hb133.ext (Ext.trans he161 he165)
    refine RS.runs rfl rfl rfl (h_store (vv := (.agg #[(bd (qx.num < 0)), vn70, vd72])) (cs := [(bd (qx.num < 0)), vn70, vd72]) (o := 0) ty44 rfl rfl rfl rfl (one_cons rfl (one_cons hn71.one (one_cons hd73.one one_nil))) hb133 bL) ?_ RS.nil
    rintro w173 ⟨hn174, hx175, hz176⟩
    refine ⟨.inr (.inl kR), ?_⟩
    replace hE := hE.nb hx175 ge_b131
    have nb_hx175 := (Nb.of hb133 (nu_cons rfl (nu_cons rfl (nu_cons rfl nu_nil))))
    replace hb133 : Bk w173 b131 44 [(bd (qx.num < 0)), vn70, vd72] := hn174
    refine RA.all [7] kR rfl ?_
    replace hb162 := (hb162.ext he165).exc hx175 (Nat.ne_of_gt lt_b131_b160)
    refine RS.runs rfl rfl rfl (h_store (vv := (.agg #[(bd (qy.num < 0)), vn166, vd168])) (cs := [(bd (qy.num < 0)), vn166, vd168]) (o := 0) ty44 rfl rfl rfl rfl (one_cons rfl (one_cons hn167.one (one_cons hd169.one one_nil))) hb162 bL) ?_ RS.nil
    rintro w177 ⟨hn178, hx179, hz180⟩
    refine ⟨.inr (.inl kR), ?_⟩
    replace hE := hE.nb hx179 ge_b160
    have nb_hx179 := (Nb.of hb162 (nu_cons rfl (nu_cons rfl (nu_cons rfl nu_nil))))
    replace hb162 : Bk w177 b160 44 [(bd (qy.num < 0)), vn166, vd168] := hn178
    refine RA.done kR ?_
    have hm181 := Ext.trans he69 (Ext.trans he132 (Ext.trans he161 he165))
    replace hx := ((hx.tr (Sm.ext hm181)).apn hx175 nb_hx175).apn hx179 nb_hx179
    replace hy := ((hy.tr (Sm.ext he165)).apn hx175 nb_hx175).apn hx179 nb_hx179
    replace hdx := ((hdx.tr (Sm.ext hm181)).apn hx175 nb_hx175).apn hx179 nb_hx179
    replace hdy := ((hdy.tr (Sm.ext he165)).apn hx175 nb_hx175).apn hx179 nb_hx179
    replace hb4 := ((hb4.ext hm181).exc hx175 (Nat.ne_of_lt (Nat.lt_trans lt_b2_b7 (Nat.lt_trans lt_b7_b12 lt_b12_b131)))).exc hx179 (Nat.ne_of_lt (Nat.lt_trans lt_b2_b7 (Nat.lt_trans lt_b7_b12 (Nat.lt_trans lt_b12_b131 lt_b131_b160))))
    replace hb9 := ((hb9.ext hm181).exc hx175 (Nat.ne_of_lt (Nat.lt_trans lt_b7_b12 lt_b12_b131))).exc hx179 (Nat.ne_of_lt (Nat.lt_trans lt_b7_b12 (Nat.lt_trans lt_b12_b131 lt_b131_b160)))
    have hm182 := Ext.trans he132 (Ext.trans he161 he165)
    replace hb14 := ((hb14.ext hm182).exc hx175 (Nat.ne_of_lt lt_b12_b131)).exc hx179 (Nat.ne_of_lt (Nat.lt_trans lt_b12_b131 lt_b131_b160))
    replace hn71 := ((hn71.tr (Sm.ext hm182)).apn hx175 nb_hx175).apn hx179 nb_hx179
    replace hd73 := ((hd73.tr (Sm.ext hm182)).apn hx175 nb_hx175).apn hx179 nb_hx179
    replace hn167 := (hn167.apn hx175 nb_hx175).apn hx179 nb_hx179
    replace hd169 := (hd169.apn hx175 nb_hx175).apn hx179 nb_hx179
    replace hb133 := hb133.exc hx179 (Nat.ne_of_lt lt_b131_b160)
    refine ⟨b131, b160, vn70, vd72, vn166, vd168, ?_, ?_, ?_, ?_, ?_, ?_, ?_, ?_, ?_, ?_, ?_, ?_, ?_, ?_, ?_, ?_, ?_, ?_, ?_, ?_, ?_, ?_⟩
    · exact (by repeat (first | exact hoff62 | refine Off.st ?_ dC _))
    · exact rfl
    · exact rfl
    · exact ge_b131
    · exact lt_b12_b131
    · exact ge_b160
    · exact (Nat.lt_trans lt_b12_b131 lt_b131_b160)
    · exact (Nat.ne_of_lt lt_b131_b160)
    · exact hx
    · exact hy
    · exact hdx
    · exact hdy
    · exact hE
    · exact hb4
    · exact hb9
    · exact hb14
    · exact hn71
    · exact hd73
    · exact hn167
    · exact hd169
    · exact hb133
    exact hb162
   refine RS.run rfl rfl rfl dC (h_alloc (cs := [(.bool false), (.slice none 0 0), (.slice none 0 0)]) ty44 rfl) ?_ RS.nil
   rintro _ w183 ⟨b184, rfl, hs187, hb186, he185⟩
   refine rm he185 ?_
   replace hb14 := hb14.ext (Ext.trans he64 he69)
   have lt_b12_b184 := Nat.lt_of_lt_of_eq hb14.lt hs187.symm
   have ge_b184 := hE.ge hs187
   replace hE := hE.nx he185
   refine RA.all [3, 4] kR rfl ?_
   replace hy := hy.tr (Sm.ext he185)
   replace hdy := hdy.tr (Sm.ext he185)
   refine RS.call rfl rfl rfl dC (r_call (vl := [(.agg #[(.bool sy), vy, uy])]) ent48 rfl) (r03_norm hy (by assumption) oS hdy (by assumption) oS (show ratOf sy (val y) (val dy) = qy from ey)) ?_ ?_
   ·rintro _ w188 ⟨⟨vn190, vd192, rfl, hn191, hd193, hl194, hl195⟩, he189⟩
    refine rm he189 ?_
    have hlv196 := den_one qy
    replace hn191 := hn191.fr hE
    replace hd193 := hd193.fr hE
    replace hE := hE.nx he189
    refine RA.all [4] kR rfl ?_
    refine RS.run rfl rfl rfl dC (h_alloc (cs := [(.bool false), (.slice none 0 0), (.slice none 0 0)]) ty44 rfl) ?_ RS.nil
    rintro _ w197 ⟨b198, rfl, hs201, hb200, he199⟩
    refine rm he199 ?_
    replace hb186 := hb186.ext he189
    have lt_b184_b198 := Nat.lt_of_lt_of_eq hb186.lt hs201.symm
    have ge_b198 := hE.ge hs201
    replace hE := hE.nx he199
    refine RA.all [6] kR rfl ?_
    refine RS.runs rfl rfl rfl (h_store (vv := (.agg #[(bd (qx.num < 0)), vn70, vd72])) (cs := [(bd (qx.num < 0)), vn70, vd72]) (o := 0) ty44 rfl rfl rfl rfl (one_cons rfl (one_cons hn71.one (one_cons hd73.one one_nil))) hb200 bL) ?_ RS.nil
    rintro w202 ⟨hn203, hx204, hz205⟩
    refine ⟨.inr (.inl kR), ?_⟩
    replace hE := hE.nb hx204 ge_b198
    have nb_hx204 := (Nb.of hb200 (nu_cons rfl (nu_cons rfl (nu_cons rfl nu_nil))))
    replace hb200 : Bk w202 b198 44 [(bd (qx.num < 0)), vn70, vd72] := hn203
    refine RA.all [7] kR rfl ?_
    replace hb186 := (hb186.ext he199).exc hx204 (Nat.ne_of_lt lt_b184_b198)
    refine RS.runs rfl rfl rfl (h_store (vv := (.agg #[(bd (qy.num < 0)), vn190, vd192])) (cs := [(bd (qy.num < 0)), vn190, vd192]) (o := 0) ty44 rfl rfl rfl rfl (one_cons rfl (one_cons hn191.one (one_cons hd193.one one_nil))) hb186 bL) ?_ RS.nil
    rintro w206 ⟨hn207, hx208, hz209⟩
    refine ⟨.inr (.inl kR), ?_⟩
    replace hE := hE.nb hx208 ge_b184
    have nb_hx208 := (Nb.of hb186 (nu_cons rfl (nu_cons rfl (nu_cons rfl nu_nil))))
    replace hb186 : Bk w206 b184 44 [(bd (qy.num < 0)), vn190, vd192] := hn207
    refine RA.done kR ?_
    have hm210 := Ext.trans he69 (Ext.trans he185 (Ext.trans he189 he199))
    replace hx := ((hx.tr (Sm.ext hm210)).apn hx204 nb_hx204).apn hx208 nb_hx208
    replace hy := ((hy.tr (Sm.ext (Ext.trans he189 he199))).apn hx204 nb_hx204).apn hx208 nb_hx208
    replace hdx := ((hdx.tr (Sm.ext hm210)).apn hx204 nb_hx204).apn hx208 nb_hx208
    replace hdy := ((hdy.tr (Sm.ext (Ext.trans he189 he199))).apn hx204 nb_hx204).apn hx208 nb_hx208
    replace hb4 := ((hb4.ext hm210).exc hx204 (Nat.ne_of_lt (Nat.lt_trans lt_b2_b7 (Nat.lt_trans lt_b7_b12 (Nat.lt_trans lt_b12_b184 lt_b184_b198))))).exc hx208 (Nat.ne_of_lt (Nat.lt_trans lt_b2_b7 (Nat.lt_trans lt_b7_b12 lt_b12_b184)))
    replace hb9 := ((hb9.ext hm210).exc hx204 (Nat.ne_of_lt (Nat.lt_trans lt_b7_b12 (Nat.lt_trans lt_b12_b184 lt_b184_b198)))).exc hx208 (Nat.ne_of_lt (Nat.lt_trans lt_b7_b12 lt_b12_b184))
    have hm211 := Ext.trans he185 (Ext.trans he189 he199)
    replace hb14 := ((hb14.ext hm211).exc hx204 (Nat.ne_of_lt (Nat.lt_trans lt_b12_b184 lt_b184_b198))).exc hx208 (Nat.ne_of_lt lt_b12_b184)
    replace hn71 := ((hn71.tr (Sm.ext hm211)).apn hx204 nb_hx204).apn hx208 nb_hx208
    replace hd73 := ((hd73.tr (Sm.ext hm211)).apn hx204 nb_hx204).apn hx208 nb_hx208
    replace hn191 := ((hn191.tr (Sm.ext he199)).apn hx204 nb_hx204).apn hx208 nb_hx208
    replace hd193 := ((hd193.tr (Sm.ext he199)).apn hx204 nb_hx204).apn hx208 nb_hx208
    replace hb200 := hb200.exc hx208 (Nat.ne_of_gt lt_b184_b198)
    refine ⟨b198, b184, vn70, vd72, vn190, vd192, ?_, ?_, ?_, ?_, ?_, ?_, ?_, ?_, ?_, ?_, ?_, ?_, ?_, ?_, ?_, ?_, ?_, ?_, ?_, ?_, ?_, ?_⟩
    · exact (by repeat (first | exact hoff62 | refine Off.st ?_ dC _))
    · exact rfl
    · exact rfl
    · exact ge_b198
    · exact (Nat.lt_trans lt_b12_b184 lt_b184_b198)
    · exact ge_b184
    · exact lt_b12_b184
    · exact (Nat.ne_of_gt lt_b184_b198)
    · exact hx
    · exact hy
    · exact hdx
    · exact hdy
    · exact hE
    · exact hb4
    · exact hb9
    · exact hb14
    · exact hn71
    · exact hd73
    · exact hn191
    · exact hd193
    · exact hb200
    exact hb186
   refine RS.run rfl rfl rfl dC (h_alloc (cs := [(.bool false), (.slice none 0 0), (.slice none 0 0)]) ty44 rfl) ?_ RS.nil
   rintro _ w212 ⟨b213, rfl, hs216, hb215, he214⟩
   refine rm he214 ?_
   have lt_b184_b213 := Nat.lt_of_lt_of_eq hb186.lt hs216.symm
   have ge_b213 := hE.ge hs216
   replace hE := hE.nx he214
   refine RA.all [3] kR rfl ?_
   replace hy := hy.tr (Sm.ext he214)
   replace hdy := hdy.tr (Sm.ext he214)
   refine RS.call rfl rfl rfl dC (r_call (vl := [(.agg #[(.bool sy), vy, uy])]) ent48 rfl) (r03_norm hy (by assumption) oS hdy (by assumption) oS (show ratOf sy (val y) (val dy) = qy from ey)) ?_ RS.nil
   rintro _ w217 ⟨⟨vn219, vd221, rfl, hn220, hd222, hl223, hl224⟩, he218⟩
   refine rm he218 ?_
   have hlv225 := den_one qy
   replace hn220 := hn220.fr hE
   replace hd222 := hd222.fr hE
   replace hE := hE.nx he218
   refine RA.all [6] kR rfl ?_
   replace hb215 := hb215.ext he218
   refine RS.runs rfl rfl rfl (h_store (vv := (.agg #[(bd (qx.num < 0)), vn70, vd72])) (cs := [(bd (qx.num < 0)), vn70, vd72]) (o := 0) ty44 rfl rfl rfl rfl (one_cons rfl (one_cons hn71.one (one_cons hd73.one one_nil))) hb215 bL) ?_ RS.nil
   rintro w226 ⟨hn227, hx228, hz229⟩
   refine ⟨.inr (.inl kR), ?_⟩
   replace hE := hE.nb hx228 ge_b213
   have nb_hx228 := (Nb.of hb215 (nu_cons rfl (nu_cons rfl (nu_cons rfl nu_nil))))
   replace hb215 : Bk w226 b213 44 [(bd (qx.num < 0)), vn70, vd72] := hn227
   refine RA.all [7] kR rfl ?_
   replace hb186 := (hb186.ext (Ext.trans he214 he218)).exc hx228 (Nat.ne_of_lt lt_b184_b213)
   refine RS.runs rfl rfl rfl (h_store (vv := (.agg #[(bd (qy.num < 0)), vn219, vd221])) (cs := [(bd (qy.num < 0)), vn219, vd221]) (o := 0) ty44 rfl rfl rfl rfl (one_cons rfl (one_cons hn220.one (one_cons hd222.one one_nil))) hb186 bL) ?_ RS.nil
   rintro w230 ⟨hn231, hx232, hz233⟩
   refine ⟨.inr (.inl kR), ?_⟩
   replace hE := hE.nb hx232 ge_b184
   have nb_hx232 := (Nb.of hb186 (nu_cons rfl (nu_cons rfl (nu_cons rfl nu_nil))))
   replace hb186 : Bk w230 b184 44 [(bd (qy.num < 0)), vn219, vd221] := hn231
   refine RA.done kR ?_
   have hm234 := Ext.trans he69 (Ext.trans he185 (Ext.trans he214 he218))
   replace hx := ((hx.tr (Sm.ext hm234)).apn hx228 nb_hx228).apn hx232 nb_hx232
   replace hy := ((hy.tr (Sm.ext he218)).apn hx228 nb_hx228).apn hx232 nb_hx232
   replace hdx := ((hdx.tr (Sm.ext hm234)).apn hx228 nb_hx228).apn hx232 nb_hx232
   replace hdy := ((hdy.tr (Sm.ext he218)).apn hx228 nb_hx228).apn hx232 nb_hx232
   replace hb4 := ((hb4.ext hm234).exc hx228 (Nat.ne_of_lt (Nat.lt_trans lt_b2_b7 (Nat.lt_trans lt_b7_b12 (Nat.lt_trans lt_b12_b184 lt_b184_b213))))).exc hx232 (Nat.ne_of_lt (Nat.lt_trans lt_b2_b7 (Nat.lt_trans lt_b7_b12 lt_b12_b184)))
   replace hb9 := ((hb9.ext hm234).exc hx228 (Nat.ne_of_lt (Nat.lt_trans lt_b7_b12 (Nat.lt_trans lt_b12_b184 lt_b184_b213)))).exc hx232 (Nat.ne_of_lt (Nat.lt_trans lt_b7_b12 lt_b12_b184))
   have hm235 := Ext.trans he185 (Ext.trans he214 he218)
   replace hb14 := ((hb14.ext hm235).exc hx228 (Nat.ne_of_lt (Nat.lt_trans lt_b12_b184 lt_b184_b213))).exc hx232 (Nat.ne_of_lt lt_b12_b184)
   replace hn71 := ((hn71.tr (Sm.ext hm235)).apn hx228 nb_hx228).apn hx232 nb_hx232
   replace hd73 := ((hd73.tr (Sm.ext hm235)).apn hx228 nb_hx228).apn hx232 nb_hx232
   replace hn220 := (hn220.apn hx228 nb_hx228).apn hx232 nb_hx232
   replace hd222 := (hd222.apn hx228 nb_hx228).apn hx232 nb_hx232
   replace hb215 := hb215.exc hx232 (Nat.ne_of_gt lt_b184_b213)
   refine ⟨b213, b184, vn70, vd72, vn219, vd221, ?_, ?_, ?_, ?_, ?_, ?_, ?_, ?_, ?_, ?_, ?_, ?_, ?_, ?_, ?_, ?_, ?_, ?_, ?_, ?_, ?_, ?_⟩
   · exact (by repeat (first | exact hoff62 | refine Off.st ?_ dC _))
   · exact rfl
   · exact rfl
   · exact ge_b213
   · exact (Nat.lt_trans lt_b12_b184 lt_b184_b213)
   · exact ge_b184
   · exact lt_b12_b184
   · exact (Nat.ne_of_gt lt_b184_b213)
   · exact hx
   · exact hy
   · exact hdx
   · exact hdy
   · exact hE
   · exact hb4
   · exact hb9
   · exact hb14
   · exact hn71
   · exact hd73
   · exact hn220
   · exact hd222
   · exact hb215
   exact hb186
  refine RS.run rfl rfl rfl dC (h_alloc (cs := [(.bool false), (.slice none 0 0), (.slice none 0 0)]) ty44 rfl) ?_ ?_
  ·rintro _ w236 ⟨b237, rfl, hs240, hb239, he238⟩
   refine rm he238 ?_
   replace hb14 := hb14.ext he64
   have lt_b12_b237 := Nat.lt_of_lt_of_eq hb14.lt hs240.symm
   have ge_b237 := hE.ge hs240
   replace hE := hE.nx he238
   refine RA.all [1, 5] kR rfl ?_
   replace hx := hx.tr (Sm.ext he238)
   replace hdx := hdx.tr (Sm.ext he238)
   refine RS.call rfl rfl rfl dC (r_call (vl := [(.agg #[(.bool sx), vx, ux])]) ent48 rfl) (r03_norm hx (by assumption) oS hdx (by assumption) oS (show ratOf sx (val x) (val dx) = qx from ex)) ?_ ?_
   ·rintro _ w241 ⟨⟨vn243, vd245, rfl, hn244, hd246, hl247, hl248⟩, he242⟩
    refine rm he242 ?_
    have hlv249 := den_one qx
    replace hn244 := hn244.fr hE
    replace hd246 := hd246.fr hE
    replace hE := hE.nx he242
    refine RA.all [3, 5] kR rfl ?_
    have hm258 := Ext.trans he3 (Ext.trans he8 (Ext.trans he13 (Ext.trans he64 (Ext.trans he238 he242))))
    replace hy := hy.tr (Sm.ext hm258)
    replace hdy := hdy.tr (Sm.ext hm258)
    refine RS.call rfl rfl rfl dC (r_call (vl := [(.agg #[(.bool sy), vy, uy])]) ent48 rfl) (r03_norm hy (by assumption) oS hdy (by assumption) oS (show ratOf sy (val y) (val dy) = qy from ey)) ?_ ?_
    ·rintro _ w250 ⟨⟨vn252, vd254, rfl, hn253, hd255, hl256, hl257⟩, he251⟩
     refine rm he251 ?_
     have hlv259 := den_one qy
     replace hn253 := hn253.fr hE
     replace hd255 := hd255.fr hE
     replace hE := hE.nx he251
     refine RA.all [5] kR rfl ?_
     refine RS.run rfl rfl rfl dC (h_alloc (cs := [(.bool false), (.slice none 0 0), (.slice none 0 0)]) ty44 rfl) ?_ RS.nil
     rintro _ w260 ⟨b261, rfl, hs264, hb263, he262⟩
     refine rm he262 ?_
     replace hb239 := hb239.ext (Ext.trans he242 he251)
     have lt_b237_b261 := Nat.lt_of_lt_of_eq hb239.lt hs264.symm
     have ge_b261 := hE.ge hs264
     replace hE := hE.nx he262
     refine RA.all [6] kR rfl ?_
     replace hb239 := hb239.ext he262
     refine RS.runs rfl rfl rfl (h_store (vv := (.agg #[(bd (qx.num < 0)), vn243, vd245])) (cs := [(bd (qx.num < 0)), vn243, vd245]) (o := 0) ty44 rfl rfl rfl rfl (one_cons rfl (one_cons hn244.one (one_cons hd246.one one_nil))) hb239 bL) ?_ RS.nil
     rintro w265 ⟨hn266, hx267, hz268⟩
     refine ⟨.inr (.inl kR), ?_⟩
     replace hE := hE.nb hx267 ge_b237
     have nb_hx267 := (Nb.of hb239 (nu_cons rfl (nu_cons rfl (nu_cons rfl nu_nil))))
     replace hb239 : Bk w265 b237 44 [(bd (qx.num < 0)), vn243, vd245] := hn266
     refine RA.all [7] kR rfl ?_
     replace hb263 := hb263.exc hx267 (Nat.ne_of_gt lt_b237_b261)
     refine RS.runs rfl rfl rfl (h_store (vv := (.agg #[(bd (qy.num < 0)), vn252, vd254])) (cs := [(bd (qy.num < 0)), vn252, vd254]) (o := 0) ty44 rfl rfl rfl rfl (one_cons rfl (one_cons hn253.one (one_cons hd255.one one_nil))) hb263 bL) ?_ RS.nil
     rintro w269 ⟨hn270, hx271, hz272⟩
     refine ⟨.inr (.inl kR), ?_⟩
     replace hE := hE.nb hx271 ge_b261
     have nb_hx271 := (Nb.of hb263 (nu_cons rfl (nu_cons rfl (nu_cons rfl nu_nil))))
     replace hb263 : Bk w269 b261 44 [(bd (qy.num < 0)), vn252, vd254] := hn270
     refine RA.done kR ?_
     have hm273 := Ext.trans he242 (Ext.trans he251 he262)
     replace hx := ((hx.tr (Sm.ext hm273)).apn hx267 nb_hx267).apn hx271 nb_hx271
     replace hy := ((hy.tr (Sm.ext (Ext.trans he251 he262))).apn hx267 nb_hx267).apn hx271 nb_hx271
     replace hdx := ((hdx.tr (Sm.ext hm273)).apn hx267 nb_hx267).apn hx271 nb_hx271
     replace hdy := ((hdy.tr (Sm.ext (Ext.trans he251 he262))).apn hx267 nb_hx267).apn hx271 nb_hx271
     have hm274 := Ext.trans he238 (Ext.trans he242 (Ext.trans he251 he262))
     replace hb4 := ((hb4.ext hm274).exc hx267 (Nat.ne_of_lt (Nat.lt_trans lt_b2_b7 (Nat.lt_trans lt_b7_b12 lt_b12_b237)))).exc hx271 (Nat.ne_of_lt (Nat.lt_trans lt_b2_b7 (Nat.lt_trans lt_b7_b12 (Nat.lt_trans lt_b12_b237 lt_b237_b261))))
     replace hb9 := ((hb9.ext hm274).exc hx267 (Nat.ne_of_lt (Nat.lt_trans lt_b7_b12 lt_b12_b237))).exc hx271 (Nat.ne_of_lt (Nat.lt_trans lt_b7_b12 (Nat.lt_trans lt_b12_b237 lt_b237_b261)))
     replace hb14 := ((hb14.ext hm274).exc hx267 (Nat.ne_of_lt lt_b12_b237)).exc hx271 (Nat.ne_of_lt (Nat.lt_trans lt_b12_b237 lt_b237_b261))
     replace hn244 := ((hn244.tr (Sm.ext (Ext.trans he251 he262))).apn hx267 nb_hx267).apn hx271 nb_hx271
     replace hd246 := ((hd246.tr (Sm.ext (Ext.trans he251 he262))).apn hx267 nb_hx267).apn hx271 nb_hx271
     replace hn253 := ((hn253.tr (Sm.ext he262)).apn hx267 nb_hx267).apn hx271 nb_hx271
     replace hd255 := ((hd255.tr (Sm.ext he262)).apn hx267 nb_hx267).apn hx271 nb_hx271
     replace hb239 := hb239.exc hx271 (Nat.ne_of_lt lt_b237_b261)
     refine ⟨b237, b261, vn243, vd245, vn252, vd254, ?_, ?_, ?_, ?_, ?_, ?_, ?_, ?_, ?_, ?_, ?_, ?_, ?_, ?_, ?_, ?_, ?_, ?_, ?_, ?_, ?_, ?_⟩
     · exact (by repeat (first | exact hoff62 | refine Off.st ?_ dC _))
     · exact rfl
     · exact rfl
     · exact ge_b237
     · exact lt_b12_b237
     · exact ge_b261
     · exact (Nat.lt_trans lt_b12_b237 lt_b237_b261)
     · exact (Nat.ne_of_lt lt_b237_b261)
     · exact hx
     · exact hy
     · exact hdx
     · exact hdy
     · exact hE
     · exact hb4
     · exact hb9
     · exact hb14
     · exact hn244
     · exact hd246
     · exact hn253
     · exact hd255
     · exact hb239
     exact hb263
    refine RS.run rfl rfl rfl dC (h_alloc (cs := [(.bool false), (.slice none 0 0), (.slice none 0 0)]) ty44 rfl) ?_ RS.nil
    rintro _ w275 ⟨b276, rfl, hs279, hb278, he277⟩
    refine rm he277 ?_
    replace hb239 := hb239.ext he242
    have lt_b237_b276 := Nat.lt_of_lt_of_eq hb239.lt hs279.symm
    have ge_b276 := hE.ge hs279
    replace hE := hE.nx he277
    refine RA.all [3] kR rfl ?_
    replace hy := hy.tr (Sm.ext he277)
    replace hdy := hdy.tr (Sm.ext he277)
    refine RS.call rfl rfl rfl dC (r_call (vl := [(.agg #[(.bool sy), vy, uy])]) ent48 rfl) (r03_norm hy (by assumption) oS hdy (by assumption) oS (show ratOf sy (val y) (val dy) = qy from ey)) ?_ RS.nil
    rintro _ w280 ⟨⟨vn282, vd284, rfl, hn283, hd285, hl286, hl287⟩, he281⟩
    refine rm he281 ?_
    have hlv288 := den_one qy
    replace hn283 := hn283.fr hE
    replace hd285 := hd285.fr hE
    replace hE := hE.nx he281
    refine RA.all [6] kR rfl ?_
    replace hb239 := hb239.ext (Ext.trans he277 he281)
    refine RS.runs rfl rfl rfl (h_store (vv := (.agg #[(bd (qx.num < 0)), vn243, vd245])) (cs := [(bd (qx.num < 0)), vn243, vd245]) (o := 0) ty44 rfl rfl rfl rfl (one_cons rfl (one_cons hn244.one (one_cons hd246.one one_nil))) hb239 bL) ?_ RS.nil
    rintro w289 ⟨hn290, hx291, hz292⟩
    refine ⟨.inr (.inl kR), ?_⟩
    replace hE := hE.nb hx291 ge_b237
    have nb_hx291 := (Nb.of hb239 (nu_cons rfl (nu_cons rfl (nu_cons rfl nu_nil))))
    replace hb239 : Bk w289 b237 44 [(bd (qx.num < 0)), vn243, vd245] := hn290
    refine RA.all [7] kR rfl ?_
    replace hb278 := (hb278.ext he281).exc hx291 (Nat.ne_of_gt lt_b237_b276)
    refine RS.runs rfl rfl rfl (h_store (vv := (.agg #[(bd (qy.num < 0)), vn282, vd284])) (cs := [(bd (qy.num < 0)), vn282, vd284]) (o := 0) ty44 rfl rfl rfl rfl (one_cons rfl (one_cons hn283.one (one_cons hd285.one one_nil))) hb278 bL) ?_ RS.nil
    rintro w293 ⟨hn294, hx295, hz296⟩
    refine ⟨.inr (.inl kR), ?_⟩
    replace hE := hE.nb hx295 ge_b276
    have nb_hx295 := (Nb.of hb278 (nu_cons rfl (nu_cons rfl (nu_cons rfl nu_nil))))
    replace hb278 : Bk w293 b276 44 [(bd (qy.num < 0)), vn282, vd284] := hn294
    refine RA.done kR ?_
    have hm297 := Ext.trans he242 (Ext.trans he277 he281)
    replace hx := ((hx.tr (Sm.ext hm297)).apn hx291 nb_hx291).apn hx295 nb_hx295
    replace hy := ((hy.tr (Sm.ext he281)).apn hx291 nb_hx291).apn hx295 nb_hx295
    replace hdx := ((hdx.tr (Sm.ext hm297)).apn hx291 nb_hx291).apn hx295 nb_hx295
    replace hdy := ((hdy.tr (Sm.ext he281)).apn hx291 nb_hx291).apn hx295 nb_hx295
    have hm298 := Ext.trans he238 (Ext.trans he242 (Ext.trans he277 he281))
    replace hb4 := ((hb4.ext hm298).exc hx291 (Nat.ne_of_lt (Nat.lt_trans lt_b2_b7 (Nat.lt_trans lt_b7_b12 lt_b12_b237)))).exc hx295 (Nat.ne_of_lt (Nat.lt_trans lt_b2_b7 (Nat.lt_trans lt_b7_b12 (Nat.lt_trans lt_b12_b237 lt_b237_b276))))
    replace hb9 := ((hb9.ext hm298).exc hx291 (Nat.ne_of_lt (Nat.lt_trans lt_b7_b12 lt_b12_b237))).exc hx295 (Nat.ne_of_lt (Nat.lt_trans lt_b7_b12 (Nat.lt_trans lt_b12_b237 lt_b237_b276)))
    replace hb14 := ((hb14.ext hm298).exc hx291 (Nat.ne_of_lt lt_b12_b237)).exc hx295 (Nat.ne_of_lt (Nat.lt_trans lt_b12_b237 lt_b237_b276))
    replace hn244 := ((hn244.tr (Sm.ext (Ext.trans he277 he281))).apn hx291 nb_hx291).apn hx295 nb_hx295
    replace hd246 := ((hd246.tr (Sm.ext (Ext.trans he277 he281))).apn hx291 nb_hx291).apn hx295 nb_hx295
    replace hn283 := (hn283.apn hx291 nb_hx291).apn hx295 nb_hx295
    replace hd285 := (hd285.apn hx291 nb_hx291).apn hx295 nb_hx295
    replace hb239 := hb239.exc hx295 (Nat.ne_of_lt lt_b237_b276)
    refine ⟨b237, b276, vn243, vd245, vn282, vd284, ?_, ?_, ?_, ?_, ?_, ?_, ?_, ?_, ?_, ?_, ?_, ?_, ?_, ?_, ?_, ?_, ?_, ?_, ?_, ?_, ?_, ?_⟩
    · exact (by repeat (first | exact hoff62 | refine Off.st ?_ dC _))
    · exact rfl
    · exact rfl
    · exact ge_b237
    · exact lt_b12_b237
    · exact ge_b276
    · exact (Nat.lt_trans lt_b12_b237 lt_b237_b276)
    · exact (Nat.ne_of_lt lt_b237_b276)
    · exact hx
    · exact hy
    · exact hdx
    · exact hdy
    · exact hE
    · exact hb4
    · exact hb9
    · exact hb14
    · exact hn244
    · exact hd246
    · exact hn283
    · exact hd285
    · exact hb239
    exact hb278
   refine RS.run rfl rfl rfl dC (h_alloc (cs := [(.bool false), (.slice none 0 0), (.slice none 0 0)]) ty44 rfl) ?_ RS.nil
   rintro _ w299 ⟨b300, rfl, hs303, hb302, he301⟩
   refine rm he301 ?_
   have lt_b237_b300 := Nat.lt_of_lt_of_eq hb239.lt hs303.symm
   have ge_b300 := hE.ge hs303
   replace hE := hE.nx he301
   refine RA.all [1] kR rfl ?_
   replace hx := hx.tr (Sm.ext he301)
   replace hdx := hdx.tr (Sm.ext he301)
   refine RS.call rfl rfl rfl dC (r_call (vl := [(.agg #[(.bool sx), vx, ux])]) ent48 rfl) (r03_norm hx (by assumption) oS hdx (by assumption) oS (show ratOf sx (val x) (val dx) = qx from ex)) ?_ RS.nil
   rintro _ w304 ⟨⟨vn306, vd308, rfl, hn307, hd309, hl310, hl311⟩, he305⟩
   refine rm he305 ?_
   have hlv312 := den_one qx
   replace hn307 := hn307.fr hE
   replace hd309 := hd309.fr hE
   replace hE := hE.nx he305
   refine RA.all [3] kR rfl ?_
   have hm321 := Ext.trans he3 (Ext.trans he8 (Ext.trans he13 (Ext.trans he64 (Ext.trans he238 (Ext.trans he301 he305)))))
   replace hy := hy.tr (Sm.ext hm321)
   replace hdy := hdy.tr (Sm.ext hm321)
   refine RS.call rfl rfl rfl dC (r_call (vl := [(.agg #[(.bool sy), vy, uy])]) ent48 rfl) (r03_norm hy (by assumption) oS hdy (by assumption) oS (show ratOf sy (val y) (val dy) = qy from ey)) ?_ RS.nil
   rintro _ w313 ⟨⟨vn315, vd317, rfl, hn316, hd318, hl319, hl320⟩, he314⟩
   refine rm he314 ?_
   have hlv322 := den_one qy
   replace hn316 := hn316.fr hE
   replace hd318 := hd318.fr hE
   replace hE := hE.nx he314
   refine RA.all [6] kR rfl ?_
   have hm327 := Ext.trans he301 (Ext.trans he305 he314)
   replace hb239 := hb239.ext hm327
   refine RS.runs rfl rfl rfl (h_store (vv := (.agg #[(bd (qx.num < 0)), vn306, vd308])) (cs := [(bd (qx.num < 0)), vn306, vd308]) (o := 0) ty44 rfl rfl rfl rfl (one_cons rfl (one_cons hn307.one (one_cons hd309.one one_nil))) hb239 bL) ?_ RS.nil
   rintro w323 ⟨hn324, hx325, hz326⟩
   refine ⟨.inr (.inl kR), ?_⟩
   replace hE := hE.nb hx325 ge_b237
   have nb_hx325 := (Nb.of hb239 (nu_cons rfl (nu_cons rfl (nu_cons rfl nu_nil))))
   replace hb239 : Bk w323 b237 44 [(bd (qx.num < 0)), vn306, vd308] := hn324
   refine RA.all [7] kR rfl ?_
   replace hb302 := (hb302.ext (Ext.trans he305 he314)).exc hx325 (Nat.ne_of_gt lt_b237_b300)
   refine RS.runs rfl rfl rfl (h_store (vv := (.agg #[(bd (qy.num < 0)), vn315, vd317])) (cs := [(bd (qy.num < 0)), vn315, vd317]) (o := 0) ty44 rfl rfl rfl rfl (one_cons rfl (one_cons hn316.one (one_cons hd318.one one_nil))) hb302 bL) ?_ RS.nil
   rintro w328 ⟨hn329, hx330, hz331⟩
   refine ⟨.inr (.inl kR), ?_⟩
   replace hE := hE.nb hx330 ge_b300
   have nb_hx330 := (Nb.of hb302 (nu_cons rfl (nu_cons rfl (nu_cons rfl nu_nil))))
   replace hb302 : Bk w328 b300 44 [(bd (qy.num < 0)), vn315, vd317] := hn329
   refine RA.done kR ?_
   replace hx := ((hx.tr (Sm.ext (Ext.trans he305 he314))).apn hx325 nb_hx325).apn hx330 nb_hx330
   replace hy := ((hy.tr (Sm.ext he314)).apn hx325 nb_hx325).apn hx330 nb_hx330
   replace hdx := ((hdx.tr (Sm.ext (Ext.trans he305 he314))).apn hx325 nb_hx325).apn hx330 nb_hx330
   replace hdy := ((hdy.tr (Sm.ext he314)).apn hx325 nb_hx325).apn hx330 nb_hx330
   have hm332 := Ext.trans he238 (Ext.trans he301 (Ext.trans he305 he314))
   replace hb4 := ((hb4.ext hm332).exc hx325 (Nat.ne_of_lt (Nat.lt_trans lt_b2_b7 (Nat.lt_trans lt_b7_b12 lt_b12_b237)))).exc hx330 (Nat.ne_of_lt (Nat.lt_trans lt_b2_b7 (Nat.lt_trans lt_b7_b12 (Nat.lt_trans lt_b12_b237 lt_b237_b300))))
   replace hb9 := ((hb9.ext hm332).exc hx325 (Nat.ne_of_lt (Nat.lt_trans lt_b7_b12 lt_b12_b237))).exc hx330 (Nat.ne_of_lt (Nat.lt_trans lt_b7_b12 (Nat.lt_trans lt_b12_b237 lt_b237_b300)))
   replace hb14 := ((hb14.ext hm332).exc hx325 (Nat.ne_of_lt lt_b12_b237)).exc hx330 (Nat.ne_of_lt (Nat.lt_trans lt_b12_b237 lt_b237_b300))
   replace hn307 := ((hn307.tr (Sm.ext he314)).apn hx325 nb_hx325).apn hx330 nb_hx330
   replace hd309 := ((hd309.tr (Sm.ext he314)).apn hx325 nb_hx325).apn hx330 nb_hx330
   replace hn316 := (hn316.apn hx325 nb_hx325).apn hx330 nb_hx330
   replace hd318 := (hd318.apn hx325 nb_hx325).apn hx330 nb_hx330
   replace hb239 := hb239.exc hx330 (Nat.ne_of_lt lt_b237_b300)
   refine ⟨b237, b300, vn306, vd308, vn315, vd317, ?_, ?_, ?_, ?_, ?_, ?_, ?_, ?_, ?_, ?_, ?_, ?_, ?_, ?_, ?_, ?_, ?_, ?_, ?_, ?_, ?_, ?_⟩
   · exact (by repeat (first | exact hoff62 | refine Off.st ?_ dC _))
   · exact rfl
   · exact rfl
   · exact ge_b237
   · exact lt_b12_b237
   · exact ge_b300
   · exact (Nat.lt_trans lt_b12_b237 lt_b237_b300)
   · exact (Nat.ne_of_lt lt_b237_b300)
   · exact hx
   · exact hy
   · exact hdx
   · exact hdy
   · exact hE
   · exact hb4
   · exact hb9
   · exact hb14
   · exact hn307
   · exact hd309
   · exact hn316
   · exact hd318
   · exact hb239
   exact hb302
  refine RS.run rfl rfl rfl dC (h_alloc (cs := [(.bool false), (.slice none 0 0), (.slice none 0 0)]) ty44 rfl) ?_ RS.nil
  rintro _ w333 ⟨b334, rfl, hs337, hb336, he335⟩
  refine rm he335 ?_
  replace hb14 := hb14.ext he64
  have lt_b12_b334 := Nat.lt_of_lt_of_eq hb14.lt hs337.symm
  have ge_b334 := hE.ge hs337
  replace hE := hE.nx he335
  refine RA.all [1, 4] kR rfl ?_
  replace hx := hx.tr (Sm.ext he335)
  replace hdx := hdx.tr (Sm.ext he335)
  refine RS.call rfl rfl rfl dC (r_call (vl := [(.agg #[(.bool sx), vx, ux])]) ent48 rfl) (r03_norm hx (by assumption) oS hdx (by assumption) oS (show ratOf sx (val x) (val dx) = qx from ex)) ?_ ?_
  ·rintro _ w338 ⟨⟨vn340, vd342, rfl, hn341, hd343, hl344, hl345⟩, he339⟩
   refine rm he339 ?_
   have hlv346 := den_one qx
   replace hn341 := hn341.fr hE
   replace hd343 := hd343.fr hE
   replace hE := hE.nx he339
   refine RA.all [3, 4] kR rfl ?_
   have hm355 := Ext.trans he3 (Ext.trans he8 (Ext.trans he13 (Ext.trans he64 (Ext.trans he335 he339))))
   replace hy := hy.tr (Sm.ext hm355)
   replace hdy := hdy.tr (Sm.ext hm355)
   refine RS.call rfl rfl rfl dC (r_call (vl := [(.agg #[(.bool sy), vy, uy])]) ent48 rfl) (r03_norm hy (by assumption) oS hdy (by assumption) oS (show ratOf sy (val y) (val dy) = qy from ey)) ?_ ?_
   ·rintro _ w347 ⟨⟨vn349, vd351, rfl, hn350, hd352, hl353, hl354⟩, he348⟩
    refine rm he348 ?_
    have hlv356 := den_one qy
    replace hn350 := hn350.fr hE
    replace hd352 := hd352.fr hE
    replace hE := hE.nx he348
    refine RA.all [4] kR rfl ?_
    refine RS.run rfl rfl rfl dC (h_alloc (cs := [(.bool false), (.slice none 0 0), (.slice none 0 0)]) ty44 rfl) ?_ RS.nil
    rintro _ w357 ⟨b358, rfl, hs361, hb360, he359⟩
    refine rm he359 ?_
    replace hb336 := hb336.ext (Ext.trans he339 he348)
    have lt_b334_b358 := Nat.lt_of_lt_of_eq hb336.lt hs361.symm
    have ge_b358 := hE.ge hs361
    replace hE := hE.nx he359
    refine RA.all [6] kR rfl ?_
    refine RS.runs rfl rfl rfl (h_store (vv := (.agg #[(bd (qx.num < 0)), vn340, vd342])) (cs := [(bd (qx.num < 0)), vn340, vd342]) (o := 0) ty44 rfl rfl rfl rfl (one_cons rfl (one_cons hn341.one (one_cons hd343.one one_nil))) hb360 bL) ?_ RS.nil
    rintro w362 ⟨hn363, hx364, hz365⟩
    refine ⟨.inr (.inl kR), ?_⟩
    replace hE := hE.nb hx364 ge_b358
    have nb_hx364 := (Nb.of hb360 (nu_cons rfl (nu_cons rfl (nu_cons rfl nu_nil))))
    replace hb360 : Bk w362 b358 44 [(bd (qx.num < 0)), vn340, vd342] := hn363
    refine RA.all [7] kR rfl ?_
    replace hb336 := (hb336.ext he359).exc hx364 (Nat.ne_of_lt lt_b334_b358)
    refine RS.runs rfl rfl rfl (h_store (vv := (.agg #[(bd (qy.num < 0)), vn349, vd351])) (cs := [(bd (qy.num < 0)), vn349, vd351]) (o := 0) ty44 rfl rfl rfl rfl (one_cons rfl (one_cons hn350.one (one_cons hd352.one one_nil))) hb336 bL) ?_ RS.nil
    rintro w366 ⟨hn367, hx368, hz369⟩
    refine ⟨.inr (.inl kR), ?_⟩
    replace hE := hE.nb hx368 ge_b334
    have nb_hx368 := (Nb.of hb336 (nu_cons rfl (nu_cons rfl (nu_cons rfl nu_nil))))
    replace hb336 : Bk w366 b334 44 [(bd (qy.num < 0)), vn349, vd351] := hn367
    refine RA.done kR ?_
    have hm370 := Ext.trans he339 (Ext.trans he348 he359)
    replace hx := ((hx.tr (Sm.ext hm370)).apn hx364 nb_hx364).apn hx368 nb_hx368
    replace hy := ((hy.tr (Sm.ext (Ext.trans he348 he359))).apn hx364 nb_hx364).apn hx368 nb_hx368
    replace hdx := ((hdx.tr (Sm.ext hm370)).apn hx364 nb_hx364).apn hx368 nb_hx368
    replace hdy := ((hdy.tr (Sm.ext (Ext.trans he348 he359))).apn hx364 nb_hx364).apn hx368 nb_hx368
    have hm371 := Ext.trans he335 (Ext.trans he339 (Ext.trans he348 he359))
    replace hb4 := ((hb4.ext hm371).exc hx364 (Nat.ne_of_lt (Nat.lt_trans lt_b2_b7 (Nat.lt_trans lt_b7_b12 (Nat.lt_trans lt_b12_b334 lt_b334_b358))))).exc hx368 (Nat.ne_of_lt (Nat.lt_trans lt_b2_b7 (Nat.lt_trans lt_b7_b12 lt_b12_b334)))
    replace hb9 := ((hb9.ext hm371).exc hx364 (Nat.ne_of_lt (Nat.lt_trans lt_b7_b12 (Nat.lt_trans lt_b12_b334 lt_b334_b358)))).exc hx368 (Nat.ne_of_lt (Nat.lt_trans lt_b7_b12 lt_b12_b334))
    replace hb14 := ((hb14.ext hm371).exc hx364 (Nat.ne_of_lt (Nat.lt_trans lt_b12_b334 lt_b334_b358))).exc hx368 (Nat.ne_of_lt lt_b12_b334)
    replace hn341 := ((hn341.tr (Sm.ext (Ext.trans he348 he359))).apn hx364 nb_hx364).apn hx368 nb_hx368
    replace hd343 := ((hd343.tr (Sm.ext (Ext.trans he348 he359))).apn hx364 nb_hx364).apn hx368 nb_hx368
    replace hn350 := ((hn350.tr (Sm.ext he359)).apn hx364 nb_hx364).apn hx368 nb_hx368
    replace hd352 := ((hd352.tr (Sm.ext he359)).apn hx364 nb_hx364).apn hx368 nb_hx368
    replace hb360 := hb360.exc hx368 (Nat.ne_of_gt lt_b334_b358)
    refine ⟨b358, b334, vn340, vd342, vn349, vd351, ?_, ?_, ?_, ?_, ?_, ?_, ?_, ?_, ?_, ?_, ?_, ?_, ?_, ?_, ?_, ?_, ?_, ?_, ?_, ?_, ?_, ?_⟩
    · exact (by repeat (first | exact hoff62 | refine Off.st ?_ dC _))
    · exact rfl
    · exact rfl
    · exact ge_b358
    · exact (Nat.lt_trans lt_b12_b334 lt_b334_b358)
    · exact ge_b334
    · exact lt_b12_b334
    · exact (Nat.ne_of_gt lt_b334_b358)
    · exact hx
    · exact hy
    · exact hdx
    · exact hdy
    · exact hE
    · exact hb4
    · exact hb9
    · exact hb14
    · exact hn341
    · exact hd343
    · exact hn350
    · exact hd352
    · exact hb360
    exact hb336
   refine RS.run rfl rfl rfl dC (h_alloc (cs := [(.bool false), (.slice none 0 0), (.slice none 0 0)]) ty44 rfl) ?_ RS.nil
   rintro _ w372 ⟨b373, rfl, hs376, hb375, he374⟩
   refine rm he374 ?_
   replace hb336 := hb336.ext he339
   have lt_b334_b373 := Nat.lt_of_lt_of_eq hb336.lt hs376.symm
   have ge_b373 := hE.ge hs376
   replace hE := hE.nx he374
   refine RA.all [3] kR rfl ?_
   replace hy := hy.tr (Sm.ext he374)
   replace hdy := hdy.tr (Sm.ext he374)
   refine RS.call rfl rfl rfl dC (r_call (vl := [(.agg #[(.bool sy), vy, uy])]) ent48 rfl) (r03_norm hy (by assumption) oS hdy (by assumption) oS (show ratOf sy (val y) (val dy) = qy from ey)) ?_ RS.nil
   rintro _ w377 ⟨⟨vn379, vd381, rfl, hn380, hd382, hl383, hl384⟩, he378⟩
   refine rm he378 ?_
   have hlv385 := den_one qy
   replace hn380 := hn380.fr hE
   replace hd382 := hd382.fr hE
   replace hE := hE.nx he378
   refine RA.all [6] kR rfl ?_
   replace hb375 := hb375.ext he378
   refine RS.runs rfl rfl rfl (h_store (vv := (.agg #[(bd (qx.num < 0)), vn340, vd342])) (cs := [(bd (qx.num < 0)), vn340, vd342]) (o := 0) ty44 rfl rfl rfl rfl (one_cons rfl (one_cons hn341.one (one_cons hd343.one one_nil))) hb375 bL) ?_ RS.nil
   rintro w386 ⟨hn387, hx388, hz389⟩
   refine ⟨.inr (.inl kR), ?_⟩
   replace hE := hE.nb hx388 ge_b373
   have nb_hx388 := (Nb.of hb375 (nu_cons rfl (nu_cons rfl (nu_cons rfl nu_nil))))
   replace hb375 : Bk w386 b373 44 [(bd (qx.num < 0)), vn340, vd342] := hn387
   refine RA.all [7] kR rfl ?_
   replace hb336 := (hb336.ext (Ext.trans he374 he378)).exc hx388 (Nat.ne_of_lt lt_b334_b373)
   refine RS.runs rfl rfl rfl (h_store (vv := (.agg #[(bd (qy.num < 0)), vn379, vd381])) (cs := [(bd (qy.num < 0)), vn379, vd381]) (o := 0) ty44 rfl rfl rfl rfl (one_cons rfl (one_cons hn380.one (one_cons hd382.one one_nil))) hb336 bL) ?_ RS.nil
   rintro w390 ⟨hn391, hx392, hz393⟩
   refine ⟨.inr (.inl kR), ?_⟩
   replace hE := hE.nb hx392 ge_b334
   have nb_hx392 := (Nb.of hb336 (nu_cons rfl (nu_cons rfl (nu_cons rfl nu_nil))))
   replace hb336 : Bk w390 b334 44 [(bd (qy.num < 0)), vn379, vd381] := hn391
   refine RA.done kR ?_
   have hm394 := Ext.trans he339 (Ext.trans he374 he378)
   replace hx := ((hx.tr (Sm.ext hm394)).apn hx388 nb_hx388).apn hx392 nb_hx392
   replace hy := ((hy.tr (Sm.ext he378)).apn hx388 nb_hx388).apn hx392 nb_hx392
   replace hdx := ((hdx.tr (Sm.ext hm394)).apn hx388 nb_hx388).apn hx392 nb_hx392
   replace hdy := ((hdy.tr (Sm.ext he378)).apn hx388 nb_hx388).apn hx392 nb_hx392
   have hm395 := Ext.trans he335 (Ext.trans he339 (Ext.trans he374 he378))
   replace hb4 := ((hb4.ext hm395).exc hx388 (Nat.ne_of_lt (Nat.lt_trans lt_b2_b7 (Nat.lt_trans lt_b7_b12 (Nat.lt_trans lt_b12_b334 lt_b334_b373))))).exc hx392 (Nat.ne_of_lt (Nat.lt_trans lt_b2_b7 (Nat.lt_trans lt_b7_b12 lt_b12_b334)))
   replace hb9 := ((hb9.ext hm395).exc hx388 (Nat.ne_of_lt (Nat.lt_trans lt_b7_b12 (Nat.lt_trans lt_b12_b334 lt_b334_b373)))).exc hx392 (Nat.ne_of_lt (Nat.lt_trans lt_b7_b12 lt_b12_b334))
   replace hb14 := ((hb14.ext hm395).exc hx388 (Nat.ne_of_lt (Nat.lt_trans lt_b12_b334 lt_b334_b373))).exc hx392 (Nat.ne_of_lt lt_b12_b334)
   replace hn341 := ((hn341.tr (Sm.ext (Ext.trans he374 he378))).apn hx388 nb_hx388).apn hx392 nb_hx392
   replace hd343 := ((hd343.tr (Sm.ext (Ext.trans he374 he378))).apn hx388 nb_hx388).apn hx392 nb_hx392
   replace hn380 := (hn380.apn hx388 nb_hx388).apn hx392 nb_hx392
   replace hd382 := (hd382.apn hx388 nb_hx388).apn hx392 nb_hx392
   replace hb375 := hb375.exc hx392 (Nat.ne_of_gt lt_b334_b373)
   refine ⟨b373, b334, vn340, vd342, vn379, vd381, ?_, ?_, ?_, ?_, ?_, ?_, ?_, ?_, ?_, ?_, ?_, ?_, ?_, ?_, ?_, ?_, ?_, ?_, ?_, ?_, ?_, ?_⟩
   · exact (by repeat (first | exact hoff62 | refine Off.st ?_ dC _))
   · exact rfl
   · exact rfl
   · exact ge_b373
   · exact (Nat.lt_trans lt_b12_b334 lt_b334_b373)
   · exact ge_b334
   · exact lt_b12_b334
   · exact (Nat.ne_of_gt lt_b334_b373)
   · exact hx
   · exact hy
   · exact hdx
   · exact hdy
   · exact hE
   · exact hb4
   · exact hb9
   · exact hb14
   · exact hn341
   · exact hd343
   · exact hn380
   · exact hd382
   · exact hb375
   exact hb336
  refine RS.run rfl rfl rfl dC (h_alloc (cs := [(.bool false), (.slice none 0 0), (.slice none 0 0)]) ty44 rfl) ?_ RS.nil
  rintro _ w396 ⟨b397, rfl, hs400, hb399, he398⟩
  refine rm he398 ?_
  have lt_b334_b397 := Nat.lt_of_lt_of_eq hb336.lt hs400.symm
  have ge_b397 := hE.ge hs400
  replace hE := hE.nx he398
  refine RA.all [1] kR rfl ?_
  replace hx := hx.tr (Sm.ext he398)
  replace hdx := hdx.tr (Sm.ext he398)
  refine RS.call rfl rfl rfl dC (r_call (vl := [(.agg #[(.bool sx), vx, ux])]) ent48 rfl) (r03_norm hx (by assumption) oS hdx (by assumption) oS (show ratOf sx (val x) (val dx) = qx from ex)) ?_ RS.nil
  rintro _ w401 ⟨⟨vn403, vd405, rfl, hn404, hd406, hl407, hl408⟩, he402⟩
  refine rm he402 ?_
  have hlv409 := den_one qx
  replace hn404 := hn404.fr hE
  replace hd406 := hd406.fr hE
  replace hE := hE.nx he402
  refine RA.all [3] kR rfl ?_
  have hm418 := Ext.trans he3 (Ext.trans he8 (Ext.trans he13 (Ext.trans he64 (Ext.trans he335 (Ext.trans he398 he402)))))
  replace hy := hy.tr (Sm.ext hm418)
  replace hdy := hdy.tr (Sm.ext hm418)
  refine RS.call rfl rfl rfl dC (r_call (vl := [(.agg #[(.bool sy), vy, uy])]) ent48 rfl) (r03_norm hy (by assumption) oS hdy (by assumption) oS (show ratOf sy (val y) (val dy) = qy from ey)) ?_ RS.nil
  rintro _ w410 ⟨⟨vn412, vd414, rfl, hn413, hd415, hl416, hl417⟩, he411⟩
  refine rm he411 ?_
  have hlv419 := den_one qy
  replace hn413 := hn413.fr hE
  replace hd415 := hd415.fr hE
  replace hE := hE.nx he411
  refine RA.all [6] kR rfl ?_
  replace hb399 := hb399.ext (Ext.trans he402 he411)
  refine RS.runs rfl rfl rfl (h_store (vv := (.agg #[(bd (qx.num < 0)), vn403, vd405])) (cs := [(bd (qx.num < 0)), vn403, vd405]) (o := 0) ty44 rfl rfl rfl rfl (one_cons rfl (one_cons hn404.one (one_cons hd406.one one_nil))) hb399 bL) ?_ RS.nil
  rintro w420 ⟨hn421, hx422, hz423⟩
  refine ⟨.inr (.inl kR), ?_⟩
  replace hE := hE.nb hx422 ge_b397
  have nb_hx422 := (Nb.of hb399 (nu_cons rfl (nu_cons rfl (nu_cons rfl nu_nil))))
  replace hb399 : Bk w420 b397 44 [(bd (qx.num < 0)), vn403, vd405] := hn421
  refine RA.all [7] kR rfl ?_
  have hm428 := Ext.trans he398 (Ext.trans he402 he411)
  replace hb336 := (hb336.ext hm428).exc hx422 (Nat.ne_of_lt lt_b334_b397)
  refine RS.runs rfl rfl rfl (h_store (vv := (.agg #[(bd (qy.num < 0)), vn412, vd414])) (cs := [(bd (qy.num < 0)), vn412, vd414]) (o := 0) ty44 rfl rfl rfl rfl (one_cons rfl (one_cons hn413.one (one_cons hd415.one one_nil))) hb336 bL) ?_ RS.nil
  rintro w424 ⟨hn425, hx426, hz427⟩
  refine ⟨.inr (.inl kR), ?_⟩
  replace hE := hE.nb hx426 ge_b334
  have nb_hx426 := (Nb.of hb336 (nu_cons rfl (nu_cons rfl (nu_cons rfl nu_nil))))
  replace hb336 : Bk w424 b334 44 [(bd (qy.num < 0)), vn412, vd414] := hn425
  refine RA.done kR ?_
  replace hx := ((hx.tr (Sm.ext (Ext.trans he402 he411))).apn hx422 nb_hx422).apn hx426 nb_hx426
  replace hy := ((hy.tr (Sm.ext he411)).apn hx422 nb_hx422).apn hx426 nb_hx426
  replace hdx := ((hdx.tr (Sm.ext (Ext.trans he402 he411))).apn hx422 nb_hx422).apn hx426 nb_hx426
  replace hdy := ((hdy.tr (Sm.ext he411)).apn hx422 nb_hx422).apn hx426 nb_hx426
  have hm429 := Ext.trans he335 (Ext.trans he398 (Ext.trans he402 he411))
  replace hb4 := ((hb4.ext hm429).exc hx422 (Nat.ne_of_lt (Nat.lt_trans lt_b2_b7 (Nat.lt_trans lt_b7_b12 (Nat.lt_trans lt_b12_b334 lt_b334_b397))))).exc hx426 (Nat.ne_of_lt (Nat.lt_trans lt_b2_b7 (Nat.lt_trans lt_b7_b12 lt_b12_b334)))
  replace hb9 := ((hb9.ext hm429).exc hx422 (Nat.ne_of_lt (Nat.lt_trans lt_b7_b12 (Nat.lt_trans lt_b12_b334 lt_b334_b397)))).exc hx426 (Nat.ne_of_lt (Nat.lt_trans lt_b7_b12 lt_b12_b334))
  replace hb14 := ((hb14.ext hm429).exc hx422 (Nat.ne_of_lt (Nat.lt_trans lt_b12_b334 lt_b334_b397))).exc hx426 (Nat.ne_of_lt lt_b12_b334)
  replace hn404 := ((hn404.tr (Sm.ext he411)).apn hx422 nb_hx422).apn hx426 nb_hx426
  replace hd406 := ((hd406.tr (Sm.ext he411)).apn hx422 nb_hx422).apn hx426 nb_hx426
  replace hn413 := (hn413.apn hx422 nb_hx422).apn hx426 nb_hx426
  replace hd415 := (hd415.apn hx422 nb_hx422).apn hx426 nb_hx426
  replace hb399 := hb399.exc hx426 (Nat.ne_of_gt lt_b334_b397)
  refine ⟨b397, b334, vn403, vd405, vn412, vd414, ?_, ?_, ?_, ?_, ?_, ?_, ?_, ?_, ?_, ?_, ?_, ?_, ?_, ?_, ?_, ?_, ?_, ?_, ?_, ?_, ?_, ?_⟩
  · exact (by repeat (first | exact hoff62 | refine Off.st ?_ dC _))
  · exact rfl
  · exact rfl
  · exact ge_b397
  · exact (Nat.lt_trans lt_b12_b334 lt_b334_b397)
  · exact ge_b334
  · exact lt_b12_b334
  · exact (Nat.ne_of_gt lt_b334_b397)
  · exact hx
  · exact hy
  · exact hdx
  · exact hdy
  · exact hE
  · exact hb4
  · exact hb9
  · exact hb14
  · exact hn404
  · exact hd406
  · exact hn413
  · exact hd415
  · exact hb399
  exact hb336
 clear hx hy hdx hdy hE hb4 hb9 hb14
 rintro f430 w431 ⟨b44, b50, vn25, vd27, vn35, vd37, hoff432, hs433, hs434, ge_b44, lt_b12_b44, ge_b50, lt_b12_b50, ne_b44_b50, hx, hy, hdx, hdy, hE, hb4, hb9, hb14, hn26, hd28, hn36, hd38, hb46, hb52⟩
 refine wseq ?_
 refine wdraw mixed fun w435 he436 => ?_
 replace hE := hE.nx he436
 refine ra 0 rfl (fun _ => r_fieldAddr uT44 rfl ty42 hs433) ?_
 replace hb46 := hb46.ext he436
 have hc437 := hb46.cells (o := 0) (cs := [(bd (qx.num < 0)), vn25]) rfl
 refine RA.rd 1 rfl kR rfl rfl rfl dC (Ext.refl _) (fun u hu => r_loada (o := 0) (cs := [(bd (qx.num < 0)), vn25]) uT42 ag42 ty42 rfl (fun j v hj => cell_ext hu (hc437 j v hj))) ?_
 replace hb9 := hb9.ext he436
 have hc438 := hb9.cells (o := 0) (cs := [(.bool sy), vy, uy]) rfl
 refine RA.rd 2 rfl kR rfl rfl rfl dC (Ext.refl _) (fun u hu => r_loada (o := 0) (cs := [(.bool sy), vy, uy]) uT44 ag44 ty44 ((hoff432 3 rfl).trans (hF17 3)) (fun j v hj => cell_ext hu (hc438 j v hj))) ?_
 refine ra 5 rfl (fun _ => r_fieldAddr uT44 rfl ty42 hs434) ?_
 replace hb52 := hb52.ext he436
 have hc439 := hb52.cells (o := 0) (cs := [(bd (qy.num < 0)), vn35]) rfl
 refine RA.rd 6 rfl kR rfl rfl rfl dC (Ext.refl _) (fun u hu => r_loada (o := 0) (cs := [(bd (qy.num < 0)), vn35]) uT42 ag42 ty42 rfl (fun j v hj => cell_ext hu (hc439 j v hj))) ?_
 replace hb4 := hb4.ext he436
 have hc440 := hb4.cells (o := 0) (cs := [(.bool sx), vx, ux]) rfl
 refine RA.rd 7 rfl kR rfl rfl rfl dC (Ext.refl _) (fun u hu => r_loada (o := 0) (cs := [(.bool sx), vx, ux]) uT44 ag44 ty44 ((hoff432 2 rfl).trans (hF17 2)) (fun j v hj => cell_ext hu (hc440 j v hj))) ?_
 have hc441 := hb4.cells (o := 0) (cs := [(.bool sx), vx, ux]) rfl
 refine RA.rd 11 rfl kR rfl rfl rfl dC (Ext.refl _) (fun u hu => r_loada (o := 0) (cs := [(.bool sx), vx, ux]) uT44 ag44 ty44 ((hoff432 2 rfl).trans (hF17 2)) (fun j v hj => cell_ext hu (hc441 j v hj))) ?_
 have hc442 := hb9.cells (o := 0) (cs := [(.bool sy), vy, uy]) rfl
 refine RA.rd 13 rfl kR rfl rfl rfl dC (Ext.refl _) (fun u hu => r_loada (o := 0) (cs := [(.bool sy), vy, uy]) uT44 ag44 ty44 ((hoff432 3 rfl).trans (hF17 3)) (fun j v hj => cell_ext hu (hc442 j v hj))) ?_
 refine RA.all [3] kR rfl ?_
 replace hy := hy.tr (Sm.ext he436)
 replace hdy := hdy.tr (Sm.ext he436)
 refine RS.call rfl rfl rfl dC (r_call (vl := [(.agg #[(.bool sy), vy, uy])]) ent97 rfl) (r03_den hy (by assumption) oS hdy (by assumption) oS (show ratOf sy (val y) (val dy) = qy from ey)) ?_ RS.nil
 rintro _ w443 ⟨⟨vr445, rfl, hr446, hl447⟩, he444⟩
 refine rm he444 ?_
 replace hr446 := hr446.fr hE
 replace hE := hE.nx he444
 refine RA.all [4] kR rfl ?_
 replace hn26 := hn26.tr (Sm.ext (Ext.trans he436 he444))
 refine RS.call rfl rfl rfl dC (r_call (vl := [(.agg #[(bd (qx.num < 0)), vn25]), (.agg #[(bd (((qy.den : Nat) : Int) < 0)), vr445])]) ent96 rfl) (r02_mul hn26 (digs_lm _) oS (sg_canon _) hr446 (digs_lm _) oS (sg_canon _)) ?_ RS.nil
 rintro _ w448 ⟨⟨vr450, rfl, hr451, hl452⟩, he449⟩
 refine rm he449 ?_
 replace hr451 := hr451.fr hE
 replace hE := hE.nx he449
 refine RA.all [8] kR rfl ?_
 have hm458 := Ext.trans he436 (Ext.trans he444 he449)
 replace hx := hx.tr (Sm.ext hm458)
 replace hdx := hdx.tr (Sm.ext hm458)
 refine RS.call rfl rfl rfl dC (r_call (vl := [(.agg #[(.bool sx), vx, ux])]) ent97 rfl) (r03_den hx (by assumption) oS hdx (by assumption) oS (show ratOf sx (val x) (val dx) = qx from ex)) ?_ RS.nil
 rintro _ w453 ⟨⟨vr455, rfl, hr456, hl457⟩, he454⟩
 refine rm he454 ?_
 replace hr456 := hr456.fr hE
 replace hE := hE.nx he454
 refine RA.all [9] kR rfl ?_
 have hm464 := Ext.trans hm458 he454
 replace hn36 := hn36.tr (Sm.ext hm464)
 refine RS.call rfl rfl rfl dC (r_call (vl := [(.agg #[(bd (qy.num < 0)), vn35]), (.agg #[(bd (((qx.den : Nat) : Int) < 0)), vr455])]) ent96 rfl) (r02_mul hn36 (digs_lm _) oS (sg_canon _) hr456 (digs_lm _) oS (sg_canon _)) ?_ RS.nil
 rintro _ w459 ⟨⟨vr461, rfl, hr462, hl463⟩, he460⟩
 refine rm he460 ?_
 replace hr462 := hr462.fr hE
 replace hE := hE.nx he460
 refine RA.all [10] kR rfl ?_
 replace hr451 := hr451.tr (Sm.ext (Ext.trans he454 he460))
 refine RS.call rfl rfl rfl dC (r_call (vl := [(.agg #[(bd ((qx.num * ((qy.den : Nat) : Int)) < 0)), vr450]), (.agg #[(bd ((qy.num * ((qx.den : Nat) : Int)) < 0)), vr461])]) ent95 rfl) (r02_add hr451 (digs_lm _) oS (sg_canon _) hr462 (digs_lm _) oS (sg_canon _)) ?_ RS.nil
 rintro _ w465 ⟨⟨vr467, rfl, hr468, hl469⟩, he466⟩
 refine rm he466 ?_
 replace hr468 := hr468.fr hE
 replace hE := hE.nx he466
 refine RA.all [12] kR rfl ?_
 have hm475 := Ext.trans he454 (Ext.trans he460 he466)
 replace hx := hx.tr (Sm.ext hm475)
 replace hdx := hdx.tr (Sm.ext hm475)
 refine RS.call rfl rfl rfl dC (r_call (vl := [(.agg #[(.bool sx), vx, ux])]) ent97 rfl) (r03_den hx (by assumption) oS hdx (by assumption) oS (show ratOf sx (val x) (val dx) = qx from ex)) ?_ RS.nil
 rintro _ w470 ⟨⟨vr472, rfl, hr473, hl474⟩, he471⟩
 refine rm he471 ?_
 replace hr473 := hr473.fr hE
 replace hE := hE.nx he471
 refine RA.all [14] kR rfl ?_
 have hm481 := Ext.trans he444 (Ext.trans he449 (Ext.trans he454 (Ext.trans he460 (Ext.trans he466 he471))))
 replace hy := hy.tr (Sm.ext hm481)
 replace hdy := hdy.tr (Sm.ext hm481)
 refine RS.call rfl rfl rfl dC (r_call (vl := [(.agg #[(.bool sy), vy, uy])]) ent97 rfl) (r03_den hy (by assumption) oS hdy (by assumption) oS (show ratOf sy (val y) (val dy) = qy from ey)) ?_ RS.nil
 rintro _ w476 ⟨⟨vr478, rfl, hr479, hl480⟩, he477⟩
 refine rm he477 ?_
 replace hr479 := hr479.fr hE
 replace hE := hE.nx he477
 refine RA.all [15] kR rfl ?_
 replace hr473 := hr473.tr (Sm.ext he477)
 refine RS.call rfl rfl rfl dC (r_call (vl := [(.agg #[(bd (((qx.den : Nat) : Int) < 0)), vr472]), (.agg #[(bd (((qy.den : Nat) : Int) < 0)), vr478])]) ent96 rfl) (r02_mul hr473 (digs_lm _) oS (sg_canon _) hr479 (digs_lm _) oS (sg_canon _)) ?_ RS.nil
 rintro _ w482 ⟨⟨vr484, rfl, hr485, hl486⟩, he483⟩
 refine rm he483 ?_
 replace hr485 := hr485.fr hE
 replace hE := hE.nx he483
 refine RA.all [16] kR rfl ?_
 have hm495 := Ext.trans he471 (Ext.trans he477 he483)
 replace hr468 := hr468.tr (Sm.ext hm495)
 refine RS.call rfl rfl rfl dC (r_call (vl := [(.agg #[(bd (((qx.num * ((qy.den : Nat) : Int)) + (qy.num * ((qx.den : Nat) : Int))) < 0)), vr467]), (.agg #[(bd ((((qx.den : Nat) : Int) * ((qy.den : Nat) : Int)) < 0)), vr484])]) ent55 rfl) (r03_make hr468 (digs_lm _) oS (sg_canon _) hr485 (digs_lm _) oS (sg_canon _)) ?_ RS.nil
 rintro _ w487 ⟨⟨vn489, vd491, rfl, hn490, hd492, hl493, hl494⟩, he488⟩
 refine rm he488 ?_
 have hlv496 := den_one (Rat.divInt ((qx.num * ((qy.den : Nat) : Int)) + (qy.num * ((qx.den : Nat) : Int))) (((qx.den : Nat) : Int) * ((qy.den : Nat) : Int)))
 replace hn490 := hn490.fr hE
 replace hd492 := hd492.fr hE
 replace hE := hE.nx he488
 refine RA.all [17] kR rfl ?_
 have hm501 := Ext.trans he436 (Ext.trans he444 (Ext.trans he449 (Ext.trans he454 (Ext.trans he460 (Ext.trans he466 (Ext.trans he471 (Ext.trans he477 (Ext.trans he483 he488))))))))
 replace hb14 := hb14.ext hm501
 refine RS.runs rfl rfl rfl (h_store (vv := (.agg #[(bd ((Rat.divInt ((qx.num * ((qy.den : Nat) : Int)) + (qy.num * ((qx.den : Nat) : Int))) (((qx.den : Nat) : Int) * ((qy.den : Nat) : Int))).num < 0)), vn489, vd491])) (cs := [(bd ((Rat.divInt ((qx.num * ((qy.den : Nat) : Int)) + (qy.num * ((qx.den : Nat) : Int))) (((qx.den : Nat) : Int) * ((qy.den : Nat) : Int))).num < 0)), vn489, vd491]) (o := 0) ty44 ((hoff432 4 rfl).trans (hF17 4)) rfl rfl rfl (one_cons rfl (one_cons hn490.one (one_cons hd492.one one_nil))) hb14 bL) ?_ RS.nil
 rintro w497 ⟨hn498, hx499, hz500⟩
 refine ⟨.inr (.inl kR), ?_⟩
 replace hE := hE.nb hx499 ge_b12
 have nb_hx499 := (Nb.of hb14 (nu_cons rfl (nu_cons rfl (nu_cons rfl nu_nil))))
 replace hb14 : Bk w497 b12 44 [(bd ((Rat.divInt ((qx.num * ((qy.den : Nat) : Int)) + (qy.num * ((qx.den : Nat) : Int))) (((qx.den : Nat) : Int) * ((qy.den : Nat) : Int))).num < 0)), vn489, vd491] := hn498
 refine RA.done kR ?_
 refine wret ?_
 refine ⟨[(.agg #[(bd ((Rat.divInt ((qx.num * ((qy.den : Nat) : Int)) + (qy.num * ((qx.den : Nat) : Int))) (((qx.den : Nat) : Int) * ((qy.den : Nat) : Int))).num < 0)), vn489, vd491])], ⟨⟨_, _, [(bd ((Rat.divInt ((qx.num * ((qy.den : Nat) : Int)) + (qy.num * ((qx.den : Nat) : Int))) (((qx.den : Nat) : Int) * ((qy.den : Nat) : Int))).num < 0)), vn489, vd491], ((hoff432 4 rfl).trans (hF17 4)), ⟨_, uT44⟩, hb14.cells rfl, .inl ⟨ag44, ⟨_, _, ty44⟩, rfl⟩⟩, trivial⟩, ?_⟩
 have hq : (Rat.divInt ((qx.num * ((qy.den : Nat) : Int)) + (qy.num * ((qx.den : Nat) : Int))) (((qx.den : Nat) : Int) * ((qy.den : Nat) : Int))) = (qx + qy) := radd_law qx qy
 rw [← hq]
 replace hn490 := hn490.apn hx499 nb_hx499
 replace hd492 := hd492.apn hx499 nb_hx499
 exact ⟨⟨_, _, rfl, hn490, hd492, by omega, by omega⟩, hE⟩
end Go.Proofs.YtelbjmhhbeijkaaGreat
namespace Go.Proofs.YtelbjmhhbeijkaaGreat
open Go.Vg Go.RowKit _root_.Go.Proofs.Tryz
set_option linter.unusedVariables false
open Go.Vm
theorem get_tk {es : List Ent'} {i : Int} {k : Nat} (h : k < es.length) (he : (es.getD k default).1 = i) : get (es.take (k + 1)) i = get (es.take k) i + (es.getD k default).2 := by
  rw [take_snoc es k h, get_append]
  show _ + ((if (es.getD k default).1 = i then (es.getD k default).2 else 0) + 0) = _
  rw [if_pos he, Rat.add_zero]
theorem get_tn {es : List Ent'} {i : Int} {k : Nat} (h : k < es.length) (he : ¬ (es.getD k default).1 = i) : get (es.take (k + 1)) i = get (es.take k) i := by
  rw [take_snoc es k h, get_append]
  show _ + ((if (es.getD k default).1 = i then (es.getD k default).2 else 0) + 0) = _
  rw [if_neg he, Rat.add_zero, Rat.add_zero]
set_option maxHeartbeats 4000000 in
theorem r06_get {w : World} {Des : Nat → TypeId → Prop} {ves : Value} {es : List Ent'} {L M : Nat} (hes0 : Es L Des w ves es) (hM : (es.length + 1) * (L + 3) + 3 ≤ M) (hMB : M ≤ 8589934000) {i : Int} :
    Calls Tryz.prog 39 #[ves, (iv i)] w fun e w' => ∃ v, e = .returned v ∧ (∃ vn vd, v = .agg #[.bool (decide ((get es i).num < 0)), vn, vd] ∧ Sg (gN .u32) (fun b T => w.heap.size ≤ b ∧ T = 89) w' vn (digs (get es i).num.natAbs) ∧ Sg (gN .u32) (fun b T => w.heap.size ≤ b ∧ T = 89) w' vd (digs (get es i).den) ∧ (digs (get es i).num.natAbs).length ≤ M ∧ (digs (get es i).den).length ≤ M) ∧ Ext w w' := by
 have hE : Below w.heap.size w w := Below.refl _ _
 have hes := hes0.old
 clear hes0
 have hlm := Nat.add_one_mul es.length (L + 3)
 refine calls_of (n := 29) (rs := [.cell 4 44]) func39 rfl rfl rfl bL ?_
 refine wset fun F0 hF0 => ?_
 refine wsr ?_
 refine rU (h_alloc (cs := [(.bool false), (.slice none 0 0), (.slice none 0 0)]) ty44 rfl) ?_
 rintro _ w1 ⟨b2, rfl, hs5, hb4, he3⟩
 have ge_b2 := hE.ge hs5
 replace hE := hE.nx he3
 refine RL.nil (wsr ?_)
 refine cL ent62 (r03_zero ) rfl ?_
 rintro _ w6 ⟨⟨vn8, vd10, rfl, hn9, hd11, hl12, hl13⟩, he7⟩
 have hlv14 := den_one (0 : Rat)
 replace hn9 := hn9.fr hE
 replace hd11 := hd11.fr hE
 replace hE := hE.nx he7
 refine rU (h_alloc (cs := [(.bool false), (.slice none 0 0), (.slice none 0 0)]) ty44 rfl) ?_
 rintro _ w15 ⟨b16, rfl, hs19, hb18, he17⟩
 replace hb4 := hb4.ext he7
 have lt_b2_b16 := Nat.lt_of_lt_of_eq hb4.lt hs19.symm
 have ge_b16 := hE.ge hs19
 replace hE := hE.nx he17
 refine RL.runs rfl rfl (h_store (vv := (.agg #[(bd ((0 : Rat).num < 0)), vn8, vd10])) (cs := [(bd ((0 : Rat).num < 0)), vn8, vd10]) (o := 0) ty44 rfl rfl rfl rfl (one_cons rfl (one_cons hn9.one (one_cons hd11.one one_nil))) hb18 bL) ?_
 rintro w20 ⟨hn21, hx22, hz23⟩
 replace hE := hE.nb hx22 ge_b16
 have nb_hx22 := (Nb.of hb18 (nu_cons rfl (nu_cons rfl (nu_cons rfl nu_nil))))
 replace hb18 : Bk w20 b16 44 [(bd ((0 : Rat).num < 0)), vn8, vd10] := hn21
 refine RL.nil (wseq (wsr (aS (v := (iv 0)) rfl (RL.nil ?_))))
 refine wblock ?_
 refine wset fun F24 hF25 => ?_
 refine wloop (σ := Nat × Value × Value) (fun (s : Nat × Value × Value) fl wl => match s with | (k, va, vd) => Off (6 :: (rg 8 20 [])) F24 fl ∧ fl 6 = (iv k) ∧ (k ≤ es.length) ∧ ((digs (get (es.take k) i).num.natAbs).length ≤ (L + 6) + k * (L + 3)) ∧ ((digs (get (es.take k) i).den).length ≤ 1 + k * (L + 3)) ∧ (Bk wl b16 44 [.bool (decide ((get (es.take k) i).num < 0)), va, vd]) ∧ (Sg (gN .u32) (fun b T => w.heap.size ≤ b ∧ T = 89) wl va (digs (get (es.take k) i).num.natAbs)) ∧ (Sg (gN .u32) (fun b T => w.heap.size ≤ b ∧ T = 89) wl vd (digs (get (es.take k) i).den)) ∧ (Below w.heap.size w wl) ∧ (Es L (fun b T => Des b T ∧ b < w.heap.size) wl ves es) ∧ (Bk wl b2 44 [(.bool false), (.slice none 0 0), (.slice none 0 0)]) ∧ (Sg (gN .u32) (fun b T => w.heap.size ≤ b ∧ T = 89) wl vn8 (digs (0 : Rat).num.natAbs)) ∧ (Sg (gN .u32) (fun b T => w.heap.size ≤ b ∧ T = 89) wl vd10 (digs (0 : Rat).den))) (fun (s : Nat × Value × Value) => match s with | (k, va, vd) => es.length - k) (0, vn8, vd10) ?_ ?_
 ·replace hn9 := (hn9.tr (Sm.ext he17)).apn hx22 nb_hx22
  replace hd11 := (hd11.tr (Sm.ext he17)).apn hx22 nb_hx22
  have hm26 := Ext.trans he3 (Ext.trans he7 he17)
  replace hes := (hes.tr (Sm.ext hm26)).tr (Sm.exc hx22 (fun _ _ _ _ hd => absurd hd.2 (Nat.not_lt_of_le ge_b16)))
  replace hb4 := (hb4.ext he17).exc hx22 (Nat.ne_of_lt lt_b2_b16)
  exact ⟨Off.refl _ _, (hF25 6).trans (rfl), Nat.zero_le _, Nat.zero_le _, (by rw [Nat.zero_mul]; exact Nat.le_refl _), hb18, hn9, hd11, hE, hes, hb4, hn9, hd11⟩
 clear hes hE hb4 hn9 hd11 hb18
 rintro ⟨k, va, vd⟩ f27 w28 ⟨hoff29, hs30, hk, hp, hq, hb18, ha, hd, hE, hes, hb4, hn9, hd11⟩
 refine wseq (wsr (mV hs30 (mV (v := ves) ((hoff29 0 rfl).trans ((hF25 0).trans (hF0 0))) ?_)))
 obtain ⟨A31, c32, hv33, hc34, hc35⟩ := hes.len
 refine rV (r_len uT22 hv33) (rV (r_lss (k := .i64) (a := (k : Int)) (b := ((es.length : Nat) : Int)) rfl rfl) (RL.nil ?_))
 refine wcD (p := (k : Int) < ((es.length : Nat) : Int)) rfl (fun hb36 hb36p => ?_) (fun hb36 hb36p => ?_)
 ·refine wskip ?_
  refine wseq ?_
  refine wblock ?_
  refine wseq ?_
  have hkl : k < es.length := by omega
  have hkm := Nat.add_one_mul k (L + 3)
  have hkn := Nat.mul_le_mul_right (L + 3) (show k + 1 ≤ es.length by omega)
  refine wregion (mV (v := ves) ((hoff29 0 rfl).trans ((hF25 0).trans (hF0 0))) (mV hs30 ?_))
  obtain ⟨b37, o38, c39, s44, A42, B43, x45, d46, hv40, hc41, hx47, lm48, ln49, hd50, lm51, ln52, eq53⟩ := hes.ix (i := (k : Int)) (k) oM oM
  refine rV (r_indexAddr (i := (k : Int)) uT22 ty55 hv40 rfl oM oM) (rV (r_fieldAddr uT55 rfl ty3 rfl) (rV (r_load (v := (iv ((es.getD (k) default).1))) uT3 ag3 rfl (hc41 0 _ rfl)) (mV (v := (iv i)) ((hoff29 1 rfl).trans ((hF25 1).trans (hF0 1))) (rV (r_eql (k := .i64) (a := (es.getD (k) default).1) (b := i) rfl rfl) (RL.nil ?_)))))
  refine wcD (p := ((es.getD (k) default).1) = i) rfl (fun hb54 hb54p => ?_) (fun hb54 hb54p => ?_)
  ·have heq := hb54p
   refine wdraw mixed fun w55 he56 => ?_
   replace hE := hE.nx he56
   replace hb18 := hb18.ext he56
   have hc57 := hb18.cells (o := 0) (cs := [(bd ((get (es.take k) i).num < 0)), va, vd]) rfl
   refine RA.rd 0 rfl kR rfl rfl rfl dC (Ext.refl _) (fun u hu => r_loada (o := 0) (cs := [(bd ((get (es.take k) i).num < 0)), va, vd]) uT44 ag44 ty44 ((hoff29 5 rfl).trans (hF25 5)) (fun j v hj => cell_ext hu (hc57 j v hj))) ?_
   refine ra 1 rfl (fun _ => r_move_as (v := ves) ((hoff29 0 rfl).trans ((hF25 0).trans (hF0 0)))) ?_
   refine ra 2 rfl (fun _ => r_move_as (v := (iv k)) hs30) ?_
   replace hes := hes.tr (Sm.ext he56)
   obtain ⟨b58, o59, c60, s65, A63, B64, x66, d67, hv61, hc62, hx68, lm69, ln70, hd71, lm72, ln73, eq74⟩ := hes.ix (i := (k : Int)) (k) oM oM
   refine ra 3 rfl (fun _ => r_indexAddr (i := (k : Int)) uT22 ty55 hv61 rfl oM oM) ?_
   refine ra 4 rfl (fun _ => r_fieldAddr uT55 rfl ty44 rfl) ?_
   refine RA.rd 5 rfl kR rfl rfl rfl dC (Ext.refl _) (fun u hu => r_loada (cs := [(.bool s65), (sv A63), (sv B64)]) uT44 ag44 ty44 rfl (fun j v hj => cell_ext hu ((cdrop hc62 1) j v hj))) ?_
   refine RA.all [6] kR rfl ?_
   replace ha := ha.tr (Sm.ext he56)
   replace hd := hd.tr (Sm.ext he56)
   refine RS.call rfl rfl rfl dC (r_call (vl := [(.agg #[(bd ((get (es.take k) i).num < 0)), va, vd]), (.agg #[(.bool s65), (sv A63), (sv B64)])]) ent63 rfl) (r03_add ha (digs_lm _) oS hd (digs_lm _) oS (ratOf_canon _) hx68 lm69 oS hd71 lm72 oS (show ratOf s65 (val x66) (val d67) = (es.getD (k) default).2 from eq74)) ?_ RS.nil
   rintro _ w75 ⟨⟨vn77, vd79, rfl, hn78, hd80, hl81, hl82⟩, he76⟩
   refine rm he76 ?_
   have hlv83 := den_one ((get (es.take k) i) + ((es.getD (k) default).2))
   replace hn78 := hn78.fr hE
   replace hd80 := hd80.fr hE
   replace hE := hE.nx he76
   refine RA.all [7] kR rfl ?_
   replace hb18 := hb18.ext he76
   refine RS.runs rfl rfl rfl (h_store (vv := (.agg #[(bd (((get (es.take k) i) + ((es.getD (k) default).2)).num < 0)), vn77, vd79])) (cs := [(bd (((get (es.take k) i) + ((es.getD (k) default).2)).num < 0)), vn77, vd79]) (o := 0) ty44 ((hoff29 5 rfl).trans (hF25 5)) rfl rfl rfl (one_cons rfl (one_cons hn78.one (one_cons hd80.one one_nil))) hb18 bL) ?_ RS.nil
   rintro w84 ⟨hn85, hx86, hz87⟩
   refine ⟨.inr (.inl kR), ?_⟩
   replace hE := hE.nb hx86 ge_b16
   have nb_hx86 := (Nb.of hb18 (nu_cons rfl (nu_cons ha.nu (nu_cons hd.nu nu_nil))))
   replace hb18 : Bk w84 b16 44 [(bd (((get (es.take k) i) + ((es.getD (k) default).2)).num < 0)), vn77, vd79] := hn85
   refine RA.done kR ?_
   refine wregion (mV hs30 (rV (r_add (k := .i64) (a := (k : Int)) (b := 1) (c := (k : Int) + 1) rfl rfl (wi64 oM)) (aS (v := (iv ((k : Int) + 1))) rfl (RL.nil ?_))))
   replace hn78 := hn78.apn hx86 nb_hx86
   replace hd80 := hd80.apn hx86 nb_hx86
   replace hes := (hes.tr (Sm.ext he76)).tr (Sm.exc hx86 (fun _ _ _ _ hd => absurd hd.2 (Nat.not_lt_of_le ge_b16)))
   replace hb4 := (hb4.ext (Ext.trans he56 he76)).exc hx86 (Nat.ne_of_lt lt_b2_b16)
   replace hn9 := (hn9.tr (Sm.ext (Ext.trans he56 he76))).apn hx86 nb_hx86
   replace hd11 := (hd11.tr (Sm.ext (Ext.trans he56 he76))).apn hx86 nb_hx86
   refine ⟨(k + 1, vn77, vd79), ⟨?_, ?_, ?_, ?_, ?_, ?_, ?_, ?_, ?_, ?_, ?_, ?_, ?_⟩, ?_⟩
   · exact (by repeat (first | exact hoff29 | refine Off.st ?_ dC _))
   · first | rfl | exact int_eq oM | exact bool_eq (by simp)
   · omega
   · first | (simp only [get_tk hkl heq]; omega) | (simp only [get_tn hkl heq]; omega)
   · first | (simp only [get_tk hkl heq]; omega) | (simp only [get_tn hkl heq]; omega)
   · first | (rw [get_tk hkl heq]; exact hb18) | (rw [get_tn hkl heq]; exact hb18)
   · first | (rw [get_tk hkl heq]; exact hn78) | (rw [get_tn hkl heq]; exact hn78)
   · first | (rw [get_tk hkl heq]; exact hd80) | (rw [get_tn hkl heq]; exact hd80)
   · exact hE
   · exact hes
   · exact hb4
   · exact hn9
   · exact hd11
   (try dsimp only)
   omega
  have heq := hb54p
  refine wskip ?_
  refine wregion (mV hs30 (rV (r_add (k := .i64) (a := (k : Int)) (b := 1) (c := (k : Int) + 1) rfl rfl (wi64 oM)) (aS (v := (iv ((k : Int) + 1))) rfl (RL.nil ?_))))
  refine ⟨(k + 1, va, vd), ⟨?_, ?_, ?_, ?_, ?_, ?_, ?_, ?_, ?_, ?_, ?_, ?_, ?_⟩, ?_⟩
  · exact (by repeat (first | exact hoff29 | refine Off.st ?_ dC _))
  · first | rfl | exact int_eq oM | exact bool_eq (by simp)
  · omega
  · first | (simp only [get_tk hkl heq]; omega) | (simp only [get_tn hkl heq]; omega)
  · first | (simp only [get_tk hkl heq]; omega) | (simp only [get_tn hkl heq]; omega)
  · first | (rw [get_tk hkl heq]; exact hb18) | (rw [get_tn hkl heq]; exact hb18)
  · first | (rw [get_tk hkl heq]; exact ha) | (rw [get_tn hkl heq]; exact ha)
  · first | (rw [get_tk hkl heq]; exact hd) | (rw [get_tn hkl heq]; exact hd)
  · exact hE
  · exact hes
  · exact hb4
  · exact hn9
  · exact hd11
  (try dsimp only)
  omega
 refine wexit ?_
 refine wseq ?_
 have hke : es.take k = es := List.take_of_length_le oM
 refine wregion ?_
 have hc88 := hb18.cells (o := 0) (cs := [(bd ((get (es.take k) i).num < 0)), va, vd]) rfl
 refine rV (r_loada (o := 0) (cs := [(bd ((get (es.take k) i).num < 0)), va, vd]) uT44 ag44 ty44 ((hoff29 5 rfl).trans (hF25 5)) hc88) ?_
 refine RL.runs rfl rfl (h_store (vv := (.agg #[(bd ((get (es.take k) i).num < 0)), va, vd])) (cs := [(bd ((get (es.take k) i).num < 0)), va, vd]) (o := 0) ty44 ((hoff29 4 rfl).trans (hF25 4)) rfl rfl rfl (one_cons rfl (one_cons ha.one (one_cons hd.one one_nil))) hb4 bL) ?_
 rintro w89 ⟨hn90, hx91, hz92⟩
 replace hE := hE.nb hx91 ge_b2
 have nb_hx91 := (Nb.of hb4 (nu_cons rfl (nu_cons rfl (nu_cons rfl nu_nil))))
 replace hb4 : Bk w89 b2 44 [(bd ((get (es.take k) i).num < 0)), va, vd] := hn90
 refine RL.nil ?_
 refine wret ?_
 refine ⟨[(.agg #[(bd ((get (es.take k) i).num < 0)), va, vd])], ⟨⟨_, _, [(bd ((get (es.take k) i).num < 0)), va, vd], ((hoff29 4 rfl).trans (hF25 4)), ⟨_, uT44⟩, hb4.cells rfl, .inl ⟨ag44, ⟨_, _, ty44⟩, rfl⟩⟩, trivial⟩, ?_⟩
 replace ha := ha.apn hx91 nb_hx91
 replace hd := hd.apn hx91 nb_hx91
 rw [hke] at hp hq ha hd ⊢
 rw [show k = es.length by omega] at hp hq
 exact ⟨⟨_, _, rfl, ha, hd, by omega, by omega⟩, hE⟩
end Go.Proofs.YtelbjmhhbeijkaaGreat
namespace Go.Proofs.YtelbjmhhbeijkaaGreat
open Go.Vg Go.RowKit _root_.Go.Proofs.Tryz
set_option linter.unusedVariables false
open Go.Vm
def nrK (es : List Ent') (cl : List Int) : Nat → List Ent'
  | 0 => []
  | k + 1 => if get es (cl.getD k default) = 0 then nrK es cl k else nrK es cl k ++ [(cl.getD k default, get es (cl.getD k default))]
theorem nrK_len (es : List Ent') (cl : List Int) : ∀ k, (nrK es cl k).length ≤ k
  | 0 => Nat.le_refl _
  | k + 1 => by
    have := nrK_len es cl k
    unfold nrK
    split
    · omega
    rw [List.length_append, List.length_singleton]; omega
theorem nrK_in (es : List Ent') (cl : List Int) : ∀ k, k ≤ cl.length → ∀ e ∈ nrK es cl k, e.1 ∈ cl.take k
  | 0, _, _, h => by cases h
  | k + 1, hk, e, h => by
    rw [take_snoc cl k oM]
    unfold nrK at h
    split at h
    · exact List.mem_append_left _ (nrK_in es cl k oM e h)
    rcases List.mem_append.1 h with h | h
    · exact List.mem_append_left _ (nrK_in es cl k oM e h)
    rw [List.mem_singleton.1 h]; exact List.mem_append_right _ (by simp)
theorem sa_tk {cl : List Int} (h : SA cl) {k : Nat} (hk : k < cl.length) : ∀ y ∈ cl.take k, y < cl.getD k default := fun y hy => by
  obtain ⟨j, hj, rfl⟩ := List.mem_iff_getElem.1 hy
  rw [List.length_take] at hj
  rw [List.getElem_take, List.getD_eq_getElem?_getD, List.getElem?_eq_getElem hk]
  exact List.pairwise_iff_getElem.1 h j k oM hk oM
theorem nrK_asc (es : List Ent') {cl : List Int} (h : SA cl) : ∀ k, k ≤ cl.length → Asc (nrK es cl k)
  | 0, _ => List.Pairwise.nil
  | k + 1, hk => by
    unfold nrK
    split
    · exact nrK_asc es h k oM
    refine List.pairwise_append.2 ⟨nrK_asc es h k oM, List.pairwise_singleton _ _, fun a ha b hb => ?_⟩
    rw [List.mem_singleton.1 hb]
    exact sa_tk h oM _ (nrK_in es cl k oM a ha)
theorem nrK_nz (es : List Ent') (cl : List Int) : ∀ k, NonZ (nrK es cl k)
  | 0 => fun _ h => by cases h
  | k + 1 => by
    unfold nrK
    split
    · exact nrK_nz es cl k
    rename_i h
    intro e he
    rcases List.mem_append.1 he with g | g
    · exact nrK_nz es cl k e g
    rw [List.mem_singleton.1 g]; exact h
theorem nrK_get (es : List Ent') {cl : List Int} (h : SA cl) (i : Int) : ∀ k, k ≤ cl.length → get (nrK es cl k) i = if i ∈ cl.take k then get es i else 0
  | 0, _ => by rw [if_neg (by simp)]; rfl
  | k + 1, hk => by
    have ih := nrK_get es h i k oM
    have e1 : get [(cl.getD k default, get es (cl.getD k default))] i = if cl.getD k default = i then get es (cl.getD k default) else 0 := Rat.add_zero _
    rw [take_snoc cl k oM]
    by_cases hi : cl.getD k default = i
    · subst hi
      have hn : cl.getD k default ∉ cl.take k := fun hm => by have := sa_tk h (k := k) oM _ hm; omega
      rw [if_neg hn] at ih
      rw [if_pos (List.mem_append_right _ (by simp))]
      unfold nrK
      split
      · rename_i h0; rw [ih, h0]
      rw [get_append, ih, e1, if_pos rfl, Rat.zero_add]
    rw [if_neg hi] at e1
    have e2 : get (nrK es cl (k + 1)) i = get (nrK es cl k) i := by
      rw [nrK]
      split
      · rfl
      rw [get_append, e1, Rat.add_zero]
    have hc : (i ∈ cl.take k ++ [cl.getD k default]) ↔ i ∈ cl.take k := by
      rw [List.mem_append, List.mem_singleton]
      exact ⟨fun g => g.elim id (fun g => absurd g.symm hi), .inl⟩
    rw [e2, ih]
    simp only [hc]
theorem nr_get {es : List Ent'} {cl : List Int} (h : Ix cl es) (i : Int) : get (nrK es cl cl.length) i = get es i := by
  rw [nrK_get es h.1 i _ (Nat.le_refl _), List.take_of_length_le (Nat.le_refl _)]
  split
  · rfl
  rename_i g
  exact (get_none fun e he hh => g ((h.2 i).2 ⟨e, he, hh⟩)).symm
set_option maxHeartbeats 4000000 in
theorem r06_norm {w : World} {L : Nat} {Des : Nat → TypeId → Prop} {ves : Value} {es : List Ent'} (hes0 : Es L Des w ves es) {M : Nat} (hM : (es.length + 1) * (L + 3) + 3 ≤ M) (hMB : M ≤ 8589934000) (hln : es.length ≤ 1048576) :
    Calls Tryz.prog 31 #[ves] w fun e w' => ∃ v, e = .returned v ∧ (∃ rs, Oe M (fun b T => w.heap.size ≤ b ∧ T = 89) w' w.heap.size 55 v rs ∧ Asc rs ∧ NonZ rs ∧ (∀ i, get rs i = get es i) ∧ rs.length ≤ es.length) ∧ Ext w w' := by
 have hE : Below w.heap.size w w := Below.refl _ _
 have hes := hes0.old
 clear hes0
 refine calls_of (n := 29) (rs := [.tmp 2]) func31 rfl rfl rfl bL ?_
 refine wset fun F0 hF0 => ?_
 refine wsr (aS (v := (.slice none (0) (0))) rfl (RL.nil (wsr (aS (v := (.slice none (0) (0))) rfl (RL.nil (wseq (wsr (mV (v := ves) (hF0 0) ?_))))))))
 refine rU (h_lit (vl := [(0, ves)]) (cs := [ves]) uT105 ty22 rfl dC (by obtain ⟨_, _, e0_, -, -⟩ := hes.len; simp only [e0_]; first | (simp [Instr.fill, Value.cells]; done) | kernel_rfl)) ?_
 rintro _ w1 ⟨b2, rfl, hs5, hb4, he3⟩
 have ge_b2 := hE.ge hs5
 replace hE := hE.nx he3
 replace hes := hes.tr (Sm.ext he3)
 refine cL ent53 (r06_ind hes hb4 oM) rfl ?_
 rintro vc8 w6 ⟨⟨cl12, hIx10, hcl11, hC9⟩, he7⟩
 replace hE := hE.nx he7
 have hCo := hC9.old
 have hlo : w.heap.size ≤ w6.heap.size := hE.size
 have hEk : Below w6.heap.size w6 w6 := Below.refl _ _
 obtain ⟨A13, c14, hv15, hc16, hc17⟩ := hCo.len
 refine rV (r_len uT23 hv15) (mV (v := (iv 0)) rfl (RL.nil ?_))
 refine wblock ?_
 refine wset fun F18 hF19 => ?_
 refine wloop (σ := Nat × Value) (fun (s : Nat × Value) fl wl => match s with | (k, vr) => Off (3 :: (rg 5 2 (rg 11 17 []))) F18 fl ∧ fl 11 = (iv k) ∧ fl 3 = vr ∧ (k ≤ cl12.length) ∧ (Oe M (fun b T => w.heap.size ≤ b ∧ T = 89) wl w6.heap.size 55 vr (nrK es cl12 k)) ∧ (Es L (fun b T => Des b T ∧ b < w.heap.size) wl ves es) ∧ (Below w.heap.size w wl) ∧ (Sg (gI .i64) (fun b T => (fun b _ => w1.heap.size ≤ b) b T ∧ b < w6.heap.size) wl vc8 cl12) ∧ (Below w6.heap.size w6 wl)) (fun (s : Nat × Value) => match s with | (k, vr) => cl12.length - k) (0, (.slice none 0 0)) ?_ ?_
 ·replace hes := hes.tr (Sm.ext he7)
  exact ⟨Off.refl _ _, (hF19 11).trans (rfl), (hF19 3).trans (rfl), Nat.zero_le _, Oe.nil, hes, hE, hCo, hEk⟩
 clear hes hE hCo hEk
 rintro ⟨k, vr⟩ f20 w21 ⟨hoff22, hs23, hs24, hk, hR, hes, hE, hCo, hEk⟩
 refine wsr (rV (r_lss (k := .i64) (a := (k : Int)) (b := ((cl12.length : Nat) : Int)) hs23 ((hoff22 10 rfl).trans (hF19 10))) (RL.nil (wseq ?_)))
 refine wcD (p := (k : Int) < ((cl12.length : Nat) : Int)) rfl (fun hb25 hb25p => ?_) (fun hb25 hb25p => ?_)
 ·refine wskip ?_
  refine wseq ?_
  refine wblock ?_
  refine wseq ?_
  have hfl := nrK_len es cl12 k
  refine wregion ?_
  obtain ⟨b26, o27, c28, hv29, hc30⟩ := hCo.ix (i := (k : Int)) (k) oM oM
  refine rV (r_indexAddr (i := (k : Int)) uT23 ty3 ((((hoff22 9 rfl).trans (hF19 9))).trans hv29) hs23 oM oM) (rV (r_load (v := (iv (cl12.getD (k) default))) uT3 ag3 rfl hc30) (aS (v := (iv (cl12.getD (k) default))) rfl (RL.nil (wsr (mV (v := ves) ((hoff22 0 rfl).trans ((hF19 0).trans (hF0 0))) (mV (v := (iv (cl12.getD (k) default))) rfl ?_))))))
  refine cL ent39 (r06_get (L := L) (M := M) (i := cl12.getD (k) default) hes hM hMB) rfl ?_
  rintro _ w31 ⟨⟨vn33, vd34, rfl, hn35, hd36, ln37, ln38⟩, he32⟩
  replace hn35 := hn35.fr hE
  replace hd36 := hd36.fr hE
  replace hE := hE.nx he32
  replace hEk := hEk.nx he32
  refine rU (h_alloc (cs := [(.bool false), (.slice none 0 0), (.slice none 0 0)]) ty44 rfl) ?_
  rintro _ w39 ⟨b40, rfl, hs43, hb42, he41⟩
  have ge_b40 := hE.ge hs43
  have gk_b40 := hEk.ge hs43
  replace hR := hR.ext he32
  have on_vr_b40 : vr.ownBlock ≠ some b40 := fun h => absurd (hR.lt _ h) (by rw [hs43]; exact Nat.lt_irrefl _)
  replace hE := hE.nx he41
  replace hEk := hEk.nx he41
  refine RL.runs rfl rfl (h_store (vv := (.agg #[(bd ((get es (cl12.getD (k) default)).num < 0)), vn33, vd34])) (cs := [(bd ((get es (cl12.getD (k) default)).num < 0)), vn33, vd34]) (o := 0) ty44 rfl rfl rfl rfl (one_cons rfl (one_cons hn35.one (one_cons hd36.one one_nil))) hb42 bL) ?_
  rintro w44 ⟨hn45, hx46, hz47⟩
  replace hE := hE.nb hx46 ge_b40
  replace hEk := hEk.nb hx46 gk_b40
  have nb_hx46 := (Nb.of hb42 (nu_cons rfl (nu_cons rfl (nu_cons rfl nu_nil))))
  replace hb42 : Bk w44 b40 44 [(bd ((get es (cl12.getD (k) default)).num < 0)), vn33, vd34] := hn45
  refine RL.nil (wsr ?_)
  have hc48 := hb42.cells (o := 0) (cs := [(bd ((get es (cl12.getD (k) default)).num < 0)), vn33, vd34]) rfl
  refine rV (r_loada (o := 0) (cs := [(bd ((get es (cl12.getD (k) default)).num < 0)), vn33, vd34]) uT44 ag44 ty44 rfl hc48) ?_
  replace hn35 := (hn35.tr (Sm.ext he41)).apn hx46 nb_hx46
  replace hd36 := (hd36.tr (Sm.ext he41)).apn hx46 nb_hx46
  refine RL.call rfl rfl dC (r_call (vl := [(.agg #[(bd ((get es (cl12.getD (k) default)).num < 0)), vn33, vd34])]) ent54 rfl) (r03_sign hn35 (digs_lm _) oS hd36 (digs_lm _) oS (ratOf_canon _)) ?_
  rintro _ w49 ⟨rfl, he50⟩
  replace hE := hE.nx he50
  replace hEk := hEk.nx he50
  refine rV (r_neq (k := .i64) (a := Int.sign (get es (cl12.getD (k) default)).num) (b := 0) rfl rfl) (RL.nil ?_)
  refine wcD (p := (Int.sign (get es (cl12.getD (k) default)).num) ≠ 0) rfl (fun hb51 hb51p => ?_) (fun hb51 hb51p => ?_)
  ·have hnz : ¬ (get es (cl12.getD (k) default)) = 0 := fun h => hb51p ((sign_eq _).2 h)
   refine wregion (mV hs24 (mV (v := (iv (cl12.getD (k) default))) rfl ?_))
   replace hb42 := hb42.ext he50
   have hc52 := hb42.cells (o := 0) (cs := [(bd ((get es (cl12.getD (k) default)).num < 0)), vn33, vd34]) rfl
   refine rV (r_loada (o := 0) (cs := [(bd ((get es (cl12.getD (k) default)).num < 0)), vn33, vd34]) uT44 ag44 ty44 rfl hc52) (rV (r_build (vl := [(0, (iv (cl12.getD (k) default))), (1, (.agg #[(bd ((get es (cl12.getD (k) default)).num < 0)), vn33, vd34]))]) (cs := [(iv (cl12.getD (k) default)), (bd ((get es (cl12.getD (k) default)).num < 0)), vn33, vd34]) uT55 ty55 rfl (pl55 uT55) rfl) ?_)
   refine rU (h_lit (vl := [(0, (.agg #[(iv (cl12.getD (k) default)), (bd ((get es (cl12.getD (k) default)).num < 0)), vn33, vd34]))]) (cs := [(iv (cl12.getD (k) default)), (bd ((get es (cl12.getD (k) default)).num < 0)), vn33, vd34]) uT22 ty55 rfl dC (by first | (simp [Instr.fill, Value.cells]; done) | rfl | kernel_rfl)) ?_
   rintro _ w53 ⟨b54, rfl, hs57, hb56, he55⟩
   have lt_b40_b54 := Nat.lt_of_lt_of_eq hb42.lt hs57.symm
   have ge_b54 := hE.ge hs57
   have gk_b54 := hEk.ge hs57
   replace hR := ((hR.ext he41).exo hx46 on_vr_b40 nb_hx46).ext he50
   have on_vr_b54 : vr.ownBlock ≠ some b54 := fun h => absurd (hR.lt _ h) (by rw [hs57]; exact Nat.lt_irrefl _)
   replace hE := hE.nx he55
   replace hEk := hEk.nx he55
   replace hn35 := hn35.tr (Sm.ext (Ext.trans he50 he55))
   replace hd36 := hd36.tr (Sm.ext (Ext.trans he50 he55))
   have hrk : Rk M (fun b T => w.heap.size ≤ b ∧ T = 89) w53 (decide ((get es (cl12.getD (k) default)).num < 0), vn33, vd34) (get es (cl12.getD (k) default)) := ⟨rfl, hn35, hd36, by omega, by omega⟩
   replace hR := hR.ext he55
   refine rU (h_appendE (v1 := vr) (v2 := (.slice (some ⟨b54, 0, none⟩) (1) (1))) (q := get es (cl12.getD (k) default)) uT22 ty55 rfl rfl rfl hR (hb56.sc (D := fun _ _ => True) trivial rfl dC) hrk (fun _ h => absurd h.2 dC) (by simp only [maxLen]; omega) oM hEk.size) ?_
   rintro v59 w58 ⟨ho60, hg61⟩
   replace hE := hR.gbl hg61 hE hlo hE.size
   replace hEk := hR.gbl hg61 hEk (Nat.le_refl _) hEk.size
   refine aS (v := v59) rfl (RL.nil (wregion (rV (r_add (k := .i64) (a := (k : Int)) (b := 1) (c := (k : Int) + 1) hs23 rfl (wi64 oM)) (mV (v := (iv ((k : Int) + 1))) rfl (RL.nil ?_)))))
   replace hes := (((hes.tr (Sm.ext (Ext.trans he32 he41))).tr (Sm.exc hx46 (fun _ _ _ _ hd => absurd hd.2 (Nat.not_lt_of_le ge_b40)))).tr (Sm.ext (Ext.trans he50 he55))).tr (hR.gsm hg61 (fun b hb hd => absurd hd.2 (Nat.not_lt_of_le (Nat.le_trans hlo hb))))
   replace hCo := (((hCo.tr (Sm.ext (Ext.trans he32 he41))).tr (Sm.exc hx46 (fun _ _ _ _ hd => absurd hd.2 (Nat.not_lt_of_le gk_b40)))).tr (Sm.ext (Ext.trans he50 he55))).tr (hR.gsm hg61 (fun b hb hd => absurd hd.2 (Nat.not_lt_of_le hb)))
   refine ⟨(k + 1, v59), ⟨?_, ?_, ?_, ?_, ?_, ?_, ?_, ?_, ?_⟩, ?_⟩
   · exact (by repeat (first | exact hoff22 | refine Off.st ?_ dC _))
   · first | rfl | exact int_eq oM | exact bool_eq (by simp)
   · first | rfl | exact int_eq oM | exact bool_eq (by simp)
   · omega
   · rw [nrK, if_neg hnz]; exact ho60
   · exact hes
   · exact hE
   · exact hCo
   · exact hEk
   (try dsimp only)
   omega
  have hz : (get es (cl12.getD (k) default)) = 0 := (sign_eq _).1 (by simpa using hb51p)
  refine wskip ?_
  refine wregion (rV (r_add (k := .i64) (a := (k : Int)) (b := 1) (c := (k : Int) + 1) hs23 rfl (wi64 oM)) (mV (v := (iv ((k : Int) + 1))) rfl (RL.nil ?_)))
  replace hR := ((hR.ext he41).exo hx46 on_vr_b40 nb_hx46).ext he50
  replace hes := ((hes.tr (Sm.ext (Ext.trans he32 he41))).tr (Sm.exc hx46 (fun _ _ _ _ hd => absurd hd.2 (Nat.not_lt_of_le ge_b40)))).tr (Sm.ext he50)
  replace hCo := ((hCo.tr (Sm.ext (Ext.trans he32 he41))).tr (Sm.exc hx46 (fun _ _ _ _ hd => absurd hd.2 (Nat.not_lt_of_le gk_b40)))).tr (Sm.ext he50)
  refine ⟨(k + 1, vr), ⟨?_, ?_, ?_, ?_, ?_, ?_, ?_, ?_, ?_⟩, ?_⟩
  · exact (by repeat (first | exact hoff22 | refine Off.st ?_ dC _))
  · first | rfl | exact int_eq oM | exact bool_eq (by simp)
  · refine (hs24).trans ?_
    first | rfl | exact int_eq oM | exact bool_eq (by simp)
  · omega
  · rw [nrK, if_pos hz]; exact hR
  · exact hes
  · exact hE
  · exact hCo
  · exact hEk
  (try dsimp only)
  omega
 refine wexit ?_
 refine wsr (mV hs24 (aS (v := vr) rfl (RL.nil ?_)))
 refine wret ?_
 refine ⟨[vr], ⟨rfl, trivial⟩, ?_⟩
 have hR2 := Oe.fr (lo' := w.heap.size) hR hlo (fun _ _ h => h)
 rw [show k = cl12.length by omega] at hR2
 exact ⟨⟨_, hR2, nrK_asc es hIx10.1 _ (Nat.le_refl _), nrK_nz es _ _, nr_get hIx10, Nat.le_trans (nrK_len es _ _) hcl11⟩, hE⟩
end Go.Proofs.YtelbjmhhbeijkaaGreat
namespace Go.Proofs.YtelbjmhhbeijkaaGreat
open Go.Vg Go.RowKit _root_.Go.Proofs.Tryz
set_option linter.unusedVariables false
open Go.Vm
set_option maxHeartbeats 4000000 in
theorem r06_valid {w : World} {L n : Nat} {Des : Nat → TypeId → Prop} {ves : Value} {es : List Ent'} (hes0 : Ec L Des w ves es) (hL : L ≤ 8589934000) (hn : n ≤ 1048576) (hasc : Asc es) (hnz : NonZ es) :
    Calls Tryz.prog 33 #[ves, (iv n)] w fun e w' => ∃ v, e = .returned v ∧ (∃ r : Bool, v = .bool r ∧ (r = true ↔ ∀ e ∈ es, 0 ≤ e.1 ∧ e.1 < (n : Int))) ∧ Ext w w' := by
 have hE : Below w.heap.size w w := Below.refl _ _
 have hes := hes0
 clear hes0
 refine calls_of (n := 54) (rs := [.tmp 4]) func33 rfl rfl rfl bL ?_
 refine wset fun F0 hF0 => ?_
 refine wsr (aS (v := (.bool false)) rfl (RL.nil (wseq (wsr (aS (v := (iv 0)) rfl (RL.nil ?_))))))
 refine wblock ?_
 refine wset fun F1 hF2 => ?_
 refine wloop (σ := Nat) (fun (k : Nat) fl wl => Off (rg 4 50 []) F1 fl ∧ fl 5 = (iv k) ∧ (k ≤ es.length) ∧ (∀ e ∈ es.take k, 0 ≤ e.1 ∧ e.1 < (n : Int)) ∧ (Ec L Des wl ves es) ∧ (Below w.heap.size w wl)) (fun (k : Nat) => es.length - k) (0) ?_ ?_
 ·exact ⟨Off.refl _ _, (hF2 5).trans (rfl), Nat.zero_le _, (fun e he => by simp at he), hes, hE⟩
 clear hes hE
 rintro k f3 w4 ⟨hoff5, hs6, hk, hin, hes, hE⟩
 refine wseq (wsr (mV hs6 (mV (v := ves) ((hoff5 0 rfl).trans ((hF2 0).trans (hF0 0))) ?_)))
 obtain ⟨A7, c8, hv9, hc10, hc11⟩ := hes.len
 refine rV (r_len uT22 hv9) (rV (r_lss (k := .i64) (a := (k : Int)) (b := ((es.length : Nat) : Int)) rfl rfl) (RL.nil ?_))
 refine wcD (p := (k : Int) < ((es.length : Nat) : Int)) rfl (fun hb12 hb12p => ?_) (fun hb12 hb12p => ?_)
 ·refine wskip ?_
  refine wseq ?_
  refine wblock ?_
  refine wseq ?_
  have hkl : k < es.length := by omega
  refine wdraw mixed fun w13 he14 => ?_
  replace hE := hE.nx he14
  refine ra 0 rfl (fun _ => r_move_as (v := ves) ((hoff5 0 rfl).trans ((hF2 0).trans (hF0 0)))) ?_
  refine ra 1 rfl (fun _ => r_move_as (v := (iv k)) hs6) ?_
  replace hes := hes.tr (Sm.ext he14)
  obtain ⟨b15, o16, c17, A20, B21, hv18, hc19, hx22, hd23, ln24, ln25⟩ := hes.ix (i := (k : Int)) (k) oM oM
  refine ra 2 rfl (fun _ => r_indexAddr (i := (k : Int)) uT22 ty55 hv18 rfl oM oM) ?_
  refine ra 3 rfl (fun _ => r_fieldAddr uT55 rfl ty3 rfl) ?_
  refine RA.rd 4 rfl kR rfl rfl rfl dC (Ext.refl _) (fun u hu => r_load (v := (iv ((es.getD (k) default).1))) uT3 ag3 rfl (cell_ext hu (hc19 0 _ rfl))) ?_
  refine ra 5 rfl (fun _ => r_lss (k := .i64) (a := (es.getD (k) default).1) (b := 0) rfl rfl) ?_
  refine ra 6 rfl (fun _ => r_move_as (v := (bd (((es.getD (k) default).1) < 0))) rfl) ?_
  rcases bD (((es.getD (k) default).1) < 0) with ⟨hb26, hb26p⟩ | ⟨hb26, hb26p⟩
  ·refine RA.gno 7 rfl kR rfl rfl (.inl (bool_eq hb26)) rfl dC ?_
   refine RA.gno 8 rfl kR rfl rfl (.inl (bool_eq hb26)) rfl dC ?_
   refine RA.gno 9 rfl kR rfl rfl (.inl (bool_eq hb26)) rfl dC ?_
   refine RA.gno 10 rfl kR rfl rfl (.inl (bool_eq hb26)) rfl dC ?_
   refine RA.gno 11 rfl kR rfl rfl (.inl (bool_eq hb26)) rfl dC ?_
   refine RA.gno 12 rfl kR rfl rfl (.inl (bool_eq hb26)) rfl dC ?_
   refine RA.gno 13 rfl kR rfl rfl (.inl (bool_eq hb26)) rfl dC ?_
   refine ra 14 rfl (fun _ => r_pick_t (v := (.bool true)) (bool_eq hb26) rfl) ?_
   refine ra 15 rfl (fun _ => r_move_as (v := (.bool true)) rfl) ?_
   refine RA.gno 16 rfl kR rfl rfl (.inl rfl) rfl dC ?_
   refine RA.gno 17 rfl kR rfl rfl (.inl rfl) rfl dC ?_
   refine RA.gno 18 rfl kR rfl rfl (.inl rfl) rfl dC ?_
   refine RA.gno 19 rfl kR rfl rfl (.inr rfl) rfl dC ?_
   refine RA.gno 20 rfl kR rfl rfl (.inr rfl) rfl dC ?_
   refine RA.gno 21 rfl kR rfl rfl (.inr rfl) rfl dC ?_
   refine RA.gno 22 rfl kR rfl rfl (.inr rfl) rfl dC ?_
   refine RA.gno 23 rfl kR rfl rfl (.inr rfl) rfl dC ?_
   refine RA.gno 24 rfl kR rfl rfl (.inr rfl) rfl dC ?_
   refine RA.gno 25 rfl kR rfl rfl (.inr rfl) rfl dC ?_
   refine RA.gno 26 rfl kR rfl rfl (.inr rfl) rfl dC ?_
   refine RA.gno 27 rfl kR rfl rfl (.inr rfl) rfl dC ?_
   refine RA.gno 28 rfl kR rfl rfl (.inr rfl) rfl dC ?_
   refine RA.gno 29 rfl kR rfl rfl (.inr rfl) rfl dC ?_
   refine RA.gno 30 rfl kR rfl rfl (.inr rfl) rfl dC ?_
   refine RA.gno 31 rfl kR rfl rfl (.inl rfl) rfl dC ?_
   refine ra 32 rfl (fun _ => r_pick_t (v := (.bool true)) rfl rfl) ?_
   refine ra 33 rfl (fun _ => r_move_as (v := (.bool true)) rfl) ?_
   refine RA.gno 34 rfl kR rfl rfl (.inl rfl) rfl dC ?_
   refine RA.gno 35 rfl kR rfl rfl (.inl rfl) rfl dC ?_
   refine RA.gno 36 rfl kR rfl rfl (.inl rfl) rfl dC ?_
   refine RA.gno 37 rfl kR rfl rfl (.inl rfl) rfl dC ?_
   refine RA.gno 38 rfl kR rfl rfl (.inl rfl) rfl dC ?_
   refine RA.all [39] kR rfl ?_
   refine RS.gno rfl rfl rfl (.inl rfl) rfl dC (.inr (.inl kR)) ?_ RS.nil
   refine RA.gno 40 rfl kR rfl rfl (.inl rfl) rfl dC ?_
   refine ra 41 rfl (fun _ => r_pick_t (v := (.bool true)) rfl rfl) ?_
   refine RA.done kR ?_
   refine wcond_t rfl ?_
   refine wsr (aS (v := (.bool false)) rfl (RL.nil ?_))
   refine wret ?_
   refine ⟨[(.bool false)], ⟨rfl, trivial⟩, ?_⟩
   exact ⟨⟨_, rfl, (fun h => by cases h), fun h => by have := h _ (getD_mem es k hkl); omega⟩, hE⟩
  refine RA.gtake 7 rfl kR rfl rfl (bool_eq hb26) rfl dC (fun _ => r_move_as (v := ves) ((hoff5 0 rfl).trans ((hF2 0).trans (hF0 0)))) ?_
  refine RA.gtake 8 rfl kR rfl rfl (bool_eq hb26) rfl dC (fun _ => r_move_as (v := (iv k)) hs6) ?_
  obtain ⟨b27, o28, c29, A32, B33, hv30, hc31, hx34, hd35, ln36, ln37⟩ := hes.ix (i := (k : Int)) (k) oM oM
  refine RA.gtake 9 rfl kR rfl rfl (bool_eq hb26) rfl dC (fun _ => r_indexAddr (i := (k : Int)) uT22 ty55 hv30 rfl oM oM) ?_
  refine RA.gtake 10 rfl kR rfl rfl (bool_eq hb26) rfl dC (fun _ => r_fieldAddr uT55 rfl ty3 rfl) ?_
  refine RA.grd 11 rfl kR rfl rfl rfl (bool_eq hb26) rfl dC (Ext.refl _) (fun u hu => r_load (v := (iv ((es.getD (k) default).1))) uT3 ag3 rfl (cell_ext hu (hc31 0 _ rfl))) ?_
  refine RA.gtake 12 rfl kR rfl rfl (bool_eq hb26) rfl dC (fun _ => r_move_as (v := (iv n)) ((hoff5 1 rfl).trans ((hF2 1).trans (hF0 1)))) ?_
  refine RA.gtake 13 rfl kR rfl rfl (bool_eq hb26) rfl dC (fun _ => r_geq (k := .i64) (a := (es.getD (k) default).1) (b := (n : Int)) rfl rfl) ?_
  refine ra 14 rfl (fun _ => r_pick_f (v := (bd ((n : Int) ≤ ((es.getD (k) default).1)))) (bool_eq hb26) rfl) ?_
  refine ra 15 rfl (fun _ => r_move_as (v := (bd ((n : Int) ≤ ((es.getD (k) default).1)))) rfl) ?_
  rcases bD ((n : Int) ≤ ((es.getD (k) default).1)) with ⟨hb38, hb38p⟩ | ⟨hb38, hb38p⟩
  ·refine RA.gno 16 rfl kR rfl rfl (.inl (bool_eq hb38)) rfl dC ?_
   refine RA.gno 17 rfl kR rfl rfl (.inl (bool_eq hb38)) rfl dC ?_
   refine RA.gno 18 rfl kR rfl rfl (.inl (bool_eq hb38)) rfl dC ?_
   refine RA.gno 19 rfl kR rfl rfl (.inr rfl) rfl dC ?_
   refine RA.gno 20 rfl kR rfl rfl (.inr rfl) rfl dC ?_
   refine RA.gno 21 rfl kR rfl rfl (.inr rfl) rfl dC ?_
   refine RA.gno 22 rfl kR rfl rfl (.inr rfl) rfl dC ?_
   refine RA.gno 23 rfl kR rfl rfl (.inr rfl) rfl dC ?_
   refine RA.gno 24 rfl kR rfl rfl (.inr rfl) rfl dC ?_
   refine RA.gno 25 rfl kR rfl rfl (.inr rfl) rfl dC ?_
   refine RA.gno 26 rfl kR rfl rfl (.inr rfl) rfl dC ?_
   refine RA.gno 27 rfl kR rfl rfl (.inr rfl) rfl dC ?_
   refine RA.gno 28 rfl kR rfl rfl (.inr rfl) rfl dC ?_
   refine RA.gno 29 rfl kR rfl rfl (.inr rfl) rfl dC ?_
   refine RA.gno 30 rfl kR rfl rfl (.inr rfl) rfl dC ?_
   refine RA.gno 31 rfl kR rfl rfl (.inl (bool_eq hb38)) rfl dC ?_
   refine ra 32 rfl (fun _ => r_pick_t (v := (.bool true)) (bool_eq hb38) rfl) ?_
   refine ra 33 rfl (fun _ => r_move_as (v := (.bool true)) rfl) ?_
   refine RA.gno 34 rfl kR rfl rfl (.inl rfl) rfl dC ?_
   refine RA.gno 35 rfl kR rfl rfl (.inl rfl) rfl dC ?_
   refine RA.gno 36 rfl kR rfl rfl (.inl rfl) rfl dC ?_
   refine RA.gno 37 rfl kR rfl rfl (.inl rfl) rfl dC ?_
   refine RA.gno 38 rfl kR rfl rfl (.inl rfl) rfl dC ?_
   refine RA.all [39] kR rfl ?_
   refine RS.gno rfl rfl rfl (.inl rfl) rfl dC (.inr (.inl kR)) ?_ RS.nil
   refine RA.gno 40 rfl kR rfl rfl (.inl rfl) rfl dC ?_
   refine ra 41 rfl (fun _ => r_pick_t (v := (.bool true)) rfl rfl) ?_
   refine RA.done kR ?_
   refine wcond_t rfl ?_
   refine wsr (aS (v := (.bool false)) rfl (RL.nil ?_))
   refine wret ?_
   refine ⟨[(.bool false)], ⟨rfl, trivial⟩, ?_⟩
   exact ⟨⟨_, rfl, (fun h => by cases h), fun h => by have := h _ (getD_mem es k hkl); omega⟩, hE⟩
  refine RA.gtake 16 rfl kR rfl rfl (bool_eq hb38) rfl dC (fun _ => r_move_as (v := (iv k)) hs6) ?_
  refine RA.gtake 17 rfl kR rfl rfl (bool_eq hb38) rfl dC (fun _ => r_gtr (k := .i64) (a := (k : Int)) (b := 0) rfl rfl) ?_
  refine RA.gtake 18 rfl kR rfl rfl (bool_eq hb38) rfl dC (fun _ => r_move_as (v := (bd (0 < (k : Int)))) rfl) ?_
  rcases bD (0 < (k : Int)) with ⟨hb39, hb39p⟩ | ⟨hb39, hb39p⟩
  ·refine RA.gtake 19 rfl kR rfl rfl (bool_eq hb39) rfl dC (fun _ => r_move_as (v := ves) ((hoff5 0 rfl).trans ((hF2 0).trans (hF0 0)))) ?_
   refine RA.gtake 20 rfl kR rfl rfl (bool_eq hb39) rfl dC (fun _ => r_move_as (v := (iv k)) hs6) ?_
   obtain ⟨b40, o41, c42, A45, B46, hv43, hc44, hx47, hd48, ln49, ln50⟩ := hes.ix (i := (k : Int)) (k) oM oM
   refine RA.gtake 21 rfl kR rfl rfl (bool_eq hb39) rfl dC (fun _ => r_indexAddr (i := (k : Int)) uT22 ty55 hv43 rfl oM oM) ?_
   refine RA.gtake 22 rfl kR rfl rfl (bool_eq hb39) rfl dC (fun _ => r_fieldAddr uT55 rfl ty3 rfl) ?_
   refine RA.grd 23 rfl kR rfl rfl rfl (bool_eq hb39) rfl dC (Ext.refl _) (fun u hu => r_load (v := (iv ((es.getD (k) default).1))) uT3 ag3 rfl (cell_ext hu (hc44 0 _ rfl))) ?_
   refine RA.gtake 24 rfl kR rfl rfl (bool_eq hb39) rfl dC (fun _ => r_move_as (v := ves) ((hoff5 0 rfl).trans ((hF2 0).trans (hF0 0)))) ?_
   refine RA.gtake 25 rfl kR rfl rfl (bool_eq hb39) rfl dC (fun _ => r_move_as (v := (iv k)) hs6) ?_
   refine RA.gtake 26 rfl kR rfl rfl (bool_eq hb39) rfl dC (fun _ => r_sub (k := .i64) (a := (k : Int)) (b := 1) (c := (k : Int) - 1) rfl rfl (wi64 oM)) ?_
   obtain ⟨b51, o52, c53, A56, B57, hv54, hc55, hx58, hd59, ln60, ln61⟩ := hes.ix (i := (k : Int) - 1) (k - 1) oM oM
   refine RA.gtake 27 rfl kR rfl rfl (bool_eq hb39) rfl dC (fun _ => r_indexAddr (i := (k : Int) - 1) uT22 ty55 hv54 rfl oM oM) ?_
   refine RA.gtake 28 rfl kR rfl rfl (bool_eq hb39) rfl dC (fun _ => r_fieldAddr uT55 rfl ty3 rfl) ?_
   refine RA.grd 29 rfl kR rfl rfl rfl (bool_eq hb39) rfl dC (Ext.refl _) (fun u hu => r_load (v := (iv ((es.getD (k - 1) default).1))) uT3 ag3 rfl (cell_ext hu (hc55 0 _ rfl))) ?_
   refine RA.gtake 30 rfl kR rfl rfl (bool_eq hb39) rfl dC (fun _ => r_leq (k := .i64) (a := (es.getD (k) default).1) (b := (es.getD (k - 1) default).1) rfl rfl) ?_
   refine RA.gtake 31 rfl kR rfl rfl (bool_eq hb38) rfl dC (fun _ => r_pick_t (v := (bd (((es.getD (k) default).1) ≤ ((es.getD (k - 1) default).1)))) (bool_eq hb39) rfl) ?_
   refine ra 32 rfl (fun _ => r_pick_f (v := (bd (((es.getD (k) default).1) ≤ ((es.getD (k - 1) default).1)))) (bool_eq hb38) rfl) ?_
   refine ra 33 rfl (fun _ => r_move_as (v := (bd (((es.getD (k) default).1) ≤ ((es.getD (k - 1) default).1)))) rfl) ?_
   rcases bD (((es.getD (k) default).1) ≤ ((es.getD (k - 1) default).1)) with ⟨hb62, hb62p⟩ | ⟨hb62, hb62p⟩
   ·exact absurd hasc (asc_no oM hkl hb62p)
   refine RA.gtake 34 rfl kR rfl rfl (bool_eq hb62) rfl dC (fun _ => r_move_as (v := ves) ((hoff5 0 rfl).trans ((hF2 0).trans (hF0 0)))) ?_
   refine RA.gtake 35 rfl kR rfl rfl (bool_eq hb62) rfl dC (fun _ => r_move_as (v := (iv k)) hs6) ?_
   obtain ⟨b63, o64, c65, A68, B69, hv66, hc67, hx70, hd71, ln72, ln73⟩ := hes.ix (i := (k : Int)) (k) oM oM
   refine RA.gtake 36 rfl kR rfl rfl (bool_eq hb62) rfl dC (fun _ => r_indexAddr (i := (k : Int)) uT22 ty55 hv66 rfl oM oM) ?_
   refine RA.gtake 37 rfl kR rfl rfl (bool_eq hb62) rfl dC (fun _ => r_fieldAddr uT55 rfl ty44 rfl) ?_
   refine RA.grd 38 rfl kR rfl rfl rfl (bool_eq hb62) rfl dC (Ext.refl _) (fun u hu => r_loada (cs := [(bd ((es.getD (k) default).2.num < 0)), (sv A68), (sv B69)]) uT44 ag44 ty44 rfl (fun j v hj => cell_ext hu ((cdrop hc67 1) j v hj))) ?_
   refine RA.all [39] kR rfl ?_
   refine RS.gcall rfl rfl rfl (bool_eq hb62) rfl dC (r_call (vl := [(.agg #[(bd ((es.getD (k) default).2.num < 0)), (sv A68), (sv B69)])]) ent54 rfl) (r03_sign hx70 (digs_lm _) oS hd71 (digs_lm _) oS (ratOf_canon _)) ?_ RS.nil
   rintro _ w74 ⟨rfl, he75⟩
   refine rm he75 ?_
   replace hE := hE.nx he75
   refine RA.gtake 40 rfl kR rfl rfl (bool_eq hb62) rfl dC (fun _ => r_eql (k := .i64) (a := Int.sign ((es.getD (k) default).2).num) (b := 0) rfl rfl) ?_
   refine ra 41 rfl (fun _ => r_pick_f (v := (bd ((Int.sign ((es.getD (k) default).2).num) = 0))) (bool_eq hb62) rfl) ?_
   refine RA.done kR ?_
   refine wcD (p := (Int.sign ((es.getD (k) default).2).num) = 0) rfl (fun hb76 hb76p => ?_) (fun hb76 hb76p => ?_)
   ·exact absurd ((sign_eq _).1 hb76p) (hnz _ (getD_mem _ _ hkl))
   refine wskip ?_
   refine wregion (mV hs6 (rV (r_add (k := .i64) (a := (k : Int)) (b := 1) (c := (k : Int) + 1) rfl rfl (wi64 oM)) (aS (v := (iv ((k : Int) + 1))) rfl (RL.nil ?_))))
   replace hes := hes.tr (Sm.ext he75)
   refine ⟨(k + 1), ⟨?_, ?_, ?_, ?_, ?_, ?_⟩, ?_⟩
   · exact (by repeat (first | exact hoff5 | refine Off.st ?_ dC _))
   · first | rfl | exact int_eq oM | exact bool_eq (by simp)
   · omega
   · rw [take_snoc es k hkl]; intro e he; rcases List.mem_append.1 he with h | h; exact hin e h; rw [List.mem_singleton.1 h]; exact ⟨by omega, by omega⟩
   · exact hes
   · exact hE
   (try dsimp only)
   omega
  refine RA.gno 19 rfl kR rfl rfl (.inl (bool_eq hb39)) rfl dC ?_
  refine RA.gno 20 rfl kR rfl rfl (.inl (bool_eq hb39)) rfl dC ?_
  refine RA.gno 21 rfl kR rfl rfl (.inl (bool_eq hb39)) rfl dC ?_
  refine RA.gno 22 rfl kR rfl rfl (.inl (bool_eq hb39)) rfl dC ?_
  refine RA.gno 23 rfl kR rfl rfl (.inl (bool_eq hb39)) rfl dC ?_
  refine RA.gno 24 rfl kR rfl rfl (.inl (bool_eq hb39)) rfl dC ?_
  refine RA.gno 25 rfl kR rfl rfl (.inl (bool_eq hb39)) rfl dC ?_
  refine RA.gno 26 rfl kR rfl rfl (.inl (bool_eq hb39)) rfl dC ?_
  refine RA.gno 27 rfl kR rfl rfl (.inl (bool_eq hb39)) rfl dC ?_
  refine RA.gno 28 rfl kR rfl rfl (.inl (bool_eq hb39)) rfl dC ?_
  refine RA.gno 29 rfl kR rfl rfl (.inl (bool_eq hb39)) rfl dC ?_
  refine RA.gno 30 rfl kR rfl rfl (.inl (bool_eq hb39)) rfl dC ?_
  refine RA.gtake 31 rfl kR rfl rfl (bool_eq hb38) rfl dC (fun _ => r_pick_f (v := (.bool false)) (bool_eq hb39) rfl) ?_
  refine ra 32 rfl (fun _ => r_pick_f (v := (.bool false)) (bool_eq hb38) rfl) ?_
  refine ra 33 rfl (fun _ => r_move_as (v := (.bool false)) rfl) ?_
  refine RA.gtake 34 rfl kR rfl rfl rfl rfl dC (fun _ => r_move_as (v := ves) ((hoff5 0 rfl).trans ((hF2 0).trans (hF0 0)))) ?_
  refine RA.gtake 35 rfl kR rfl rfl rfl rfl dC (fun _ => r_move_as (v := (iv k)) hs6) ?_
  obtain ⟨b77, o78, c79, A82, B83, hv80, hc81, hx84, hd85, ln86, ln87⟩ := hes.ix (i := (k : Int)) (k) oM oM
  refine RA.gtake 36 rfl kR rfl rfl rfl rfl dC (fun _ => r_indexAddr (i := (k : Int)) uT22 ty55 hv80 rfl oM oM) ?_
  refine RA.gtake 37 rfl kR rfl rfl rfl rfl dC (fun _ => r_fieldAddr uT55 rfl ty44 rfl) ?_
  refine RA.grd 38 rfl kR rfl rfl rfl rfl rfl dC (Ext.refl _) (fun u hu => r_loada (cs := [(bd ((es.getD (k) default).2.num < 0)), (sv A82), (sv B83)]) uT44 ag44 ty44 rfl (fun j v hj => cell_ext hu ((cdrop hc81 1) j v hj))) ?_
  refine RA.all [39] kR rfl ?_
  refine RS.gcall rfl rfl rfl rfl rfl dC (r_call (vl := [(.agg #[(bd ((es.getD (k) default).2.num < 0)), (sv A82), (sv B83)])]) ent54 rfl) (r03_sign hx84 (digs_lm _) oS hd85 (digs_lm _) oS (ratOf_canon _)) ?_ RS.nil
  rintro _ w88 ⟨rfl, he89⟩
  refine rm he89 ?_
  replace hE := hE.nx he89
  refine RA.gtake 40 rfl kR rfl rfl rfl rfl dC (fun _ => r_eql (k := .i64) (a := Int.sign ((es.getD (k) default).2).num) (b := 0) rfl rfl) ?_
  refine ra 41 rfl (fun _ => r_pick_f (v := (bd ((Int.sign ((es.getD (k) default).2).num) = 0))) rfl rfl) ?_
  refine RA.done kR ?_
  refine wcD (p := (Int.sign ((es.getD (k) default).2).num) = 0) rfl (fun hb90 hb90p => ?_) (fun hb90 hb90p => ?_)
  ·exact absurd ((sign_eq _).1 hb90p) (hnz _ (getD_mem _ _ hkl))
  refine wskip ?_
  refine wregion (mV hs6 (rV (r_add (k := .i64) (a := (k : Int)) (b := 1) (c := (k : Int) + 1) rfl rfl (wi64 oM)) (aS (v := (iv ((k : Int) + 1))) rfl (RL.nil ?_))))
  replace hes := hes.tr (Sm.ext he89)
  refine ⟨(k + 1), ⟨?_, ?_, ?_, ?_, ?_, ?_⟩, ?_⟩
  · exact (by repeat (first | exact hoff5 | refine Off.st ?_ dC _))
  · first | rfl | exact int_eq oM | exact bool_eq (by simp)
  · omega
  · rw [take_snoc es k hkl]; intro e he; rcases List.mem_append.1 he with h | h; exact hin e h; rw [List.mem_singleton.1 h]; exact ⟨by omega, by omega⟩
  · exact hes
  · exact hE
  (try dsimp only)
  omega
 refine wexit ?_
 refine wsr (aS (v := (.bool true)) rfl (RL.nil ?_))
 refine wret ?_
 refine ⟨[(.bool true)], ⟨rfl, trivial⟩, ?_⟩
 rw [List.take_of_length_le oM] at hin
 exact ⟨⟨_, rfl, (fun _ => hin), fun _ => rfl⟩, hE⟩
end Go.Proofs.YtelbjmhhbeijkaaGreat
namespace Go.Proofs.YtelbjmhhbeijkaaGreat
open Go.Vg Go.RowKit _root_.Go.Proofs.Tryz
set_option linter.unusedVariables false
open Go.Vm
set_option maxHeartbeats 1000000 in
theorem t_new {w : World} {Dv : Nat → TypeId → Prop} {vv : Value} {vs : List Int} (hv0 : Sg (gI .i64) Dv w vv vs) :
    Calls Tryz.prog 8 #[vv] w fun e w' => ∃ v, e = .returned v ∧ (∃ bt, v = .pointer (some ⟨bt, 0, none⟩) ∧ w.heap.size ≤ bt ∧ Bk w' bt 58 [vv, .int .i64 0]) ∧ Ext w w' := by
 have hE : Below w.heap.size w w := Below.refl _ _
 have hv := hv0.old
 clear hv0
 refine calls_of (n := 6) (rs := [.tmp 2]) func8 rfl rfl rfl bL ?_
 refine wset fun F0 hF0 => ?_
 refine wsr ?_
 refine aS (v := (.pointer none)) rfl ?_
 refine RL.nil ?_
 refine wsr ?_
 refine mV (v := vv) (hF0 0) ?_
 refine rv (r_build (vl := [(0, vv)]) (cs := [vv, (iv 0)]) uT58 ty58 rfl (pl58 uT58) (by obtain ⟨_, _, e0_, -, -⟩ := hv.len; simp only [e0_]; rfl)) ?_
 refine RL.run rfl rfl dC (h_box (vv := (.agg #[vv, (iv 0)])) (cs := [vv, (iv 0)]) rfl rfl) ?_
 rintro _ w1 ⟨b2, rfl, hs5, hb4, he3⟩
 have ge_b2 := hE.ge hs5
 replace hE := hE.nx he3
 refine aS (v := (.pointer (some ⟨b2, 0, none⟩))) rfl ?_
 refine RL.nil ?_
 refine wret ?_
 refine ⟨[(.pointer (some ⟨b2, 0, none⟩))], ⟨rfl, trivial⟩, ?_⟩
 exact ⟨⟨b2, rfl, ge_b2, hb4⟩, hE⟩
end Go.Proofs.YtelbjmhhbeijkaaGreat
namespace Go.Proofs.YtelbjmhhbeijkaaGreat
open Go.Vg Go.RowKit _root_.Go.Proofs.Tryz
set_option linter.unusedVariables false
open Go.Vm
end Go.Proofs.YtelbjmhhbeijkaaGreat
namespace Go.Proofs.YtelbjmhhbeijkaaGreat
open Go.Vg Go.RowKit _root_.Go.Proofs.Tryz
set_option linter.unusedVariables false
open Go.Vm
end Go.Proofs.YtelbjmhhbeijkaaGreat
namespace Go.Proofs.YtelbjmhhbeijkaaGreat
open Go.Vg Go.RowKit _root_.Go.Proofs.Tryz
set_option linter.unusedVariables false
open Go.Vm
end Go.Proofs.YtelbjmhhbeijkaaGreat
namespace Go.Proofs.YtelbjmhhbeijkaaGreat
open Go.Vg Go.RowKit _root_.Go.Proofs.Tryz
set_option linter.unusedVariables false
open Go.Vm
end Go.Proofs.YtelbjmhhbeijkaaGreat
namespace Go.Proofs.YtelbjmhhbeijkaaGreat
open Go.Vg Go.RowKit _root_.Go.Proofs.Tryz
set_option linter.unusedVariables false
open Go.Vm
end Go.Proofs.YtelbjmhhbeijkaaGreat
namespace Go.Proofs.YtelbjmhhbeijkaaGreat
open Go.Vg Go.RowKit _root_.Go.Proofs.Tryz
set_option linter.unusedVariables false
open Go.Vm
theorem pigeon {α : Type} [DecidableEq α] : ∀ {l m : List α}, l.Nodup → (∀ x ∈ l, x ∈ m) → l.length ≤ m.length
  | [], _, _, _ => Nat.zero_le _
  | a :: l, m, hn, h => by
    obtain ⟨h1, h2⟩ := List.nodup_cons.1 hn
    have ha := h a (List.mem_cons_self ..)
    have h3 := pigeon (l := l) (m := m.erase a) h2 (fun x hx => (List.mem_erase_of_ne (fun e : x = a => h1 (by rw [← e]; exact hx))).2 (h x (List.mem_cons_of_mem _ hx)))
    rw [List.length_erase_of_mem ha] at h3
    have h4 := List.length_pos_of_mem ha
    rw [List.length_cons]; omega
theorem cov_of {t : List Ent'} {n : Nat} (ht : ∀ e ∈ t, 0 ≤ e.1 ∧ e.1 < (n : Int)) {i : Int} (hi : get t i ≠ 0) : 0 ≤ i ∧ i < (n : Int) := by
  rcases Classical.em (∃ x ∈ t, x.1 = i) with ⟨x, hx, h⟩ | h
  · rw [← h]; exact ht x hx
  exact absurd (get_none (a := t) (i := i) (fun x hx hh => h ⟨x, hx, hh⟩)) hi
end Go.Proofs.YtelbjmhhbeijkaaGreat
namespace Go.Proofs.YtelbjmhhbeijkaaGreat
open Go.Vg Go.RowKit _root_.Go.Proofs.Tryz
set_option linter.unusedVariables false
open Go.Vm
set_option maxHeartbeats 4000000 in
theorem r06_permute {w : World} {L : Nat} {Des : Nat → TypeId → Prop} {ves : Value} {es : List Ent'} (hes0 : Es L Des w ves es) {M M2 : Nat} (hM : (es.length + 1) * (L + 3) + 3 ≤ M) (hMB : M ≤ 8589934000) (hln : es.length ≤ 1048575) {Dp : Nat → TypeId → Prop} {vp : Value} {p : List Int} (hp0 : Sg (gI .i64) Dp w vp p) (lnp : p.length ≤ 1048576) (hM2 : (es.length + 1) * (M + 3) + 3 ≤ M2) (hMB2 : M2 ≤ 8589934000) :
    Calls Tryz.prog 12 #[ves, vp] w fun e w' => ∃ v, e = .returned v ∧ (∃ vr ok, v = .tuple #[vr, .bool ok] ∧ ((ok = false ∧ vr = .slice none 0 0 ∧ ¬ (IsP p ∧ ∀ i, get es i ≠ 0 → 0 ≤ i ∧ i < (p.length : Int))) ∨ (ok = true ∧ (IsP p ∧ ∀ i, get es i ≠ 0 → 0 ≤ i ∧ i < (p.length : Int)) ∧ ∃ r0 rs, Ec M2 (fun b _ => w.heap.size ≤ b) w' vr rs ∧ Asc rs ∧ NonZ rs ∧ (∀ i, get rs i = get (pmL p r0) i) ∧ Asc r0 ∧ NonZ r0 ∧ ∀ i, get r0 i = get es i))) ∧ Ext w w' := by
 have hE : Below w.heap.size w w := Below.refl _ _
 have hes := hes0.old
 clear hes0
 have hp := hp0.old
 clear hp0
 refine calls_of (n := 45) (rs := [.tmp 4, .tmp 5]) func12 rfl rfl rfl bL ?_
 refine wset fun F0 hF0 => ?_
 refine wsr (aS (v := (.slice none (0) (0))) rfl (aS (v := (.bool false)) rfl (RL.nil (wsr (mV (v := ves) (hF0 0) ?_)))))
 refine cL ent31 (r06_norm (es := es) (L := L) (M := M) hes hM hMB oM) rfl ?_
 rintro vn3 w1 ⟨⟨rs4, ho5, ha6, hz7, hg8, hl9⟩, he2⟩
 replace ho5 := Oe.fr (D' := (fun b T => w.heap.size ≤ b ∧ T = 89)) (lo' := w.heap.size) ho5 hE.size (fun _ _ h => ⟨Nat.le_trans hE.size h.1, h.2⟩)
 replace hE := hE.nx he2
 refine aS (v := vn3) rfl (RL.nil (wseq (wsr (mV (v := vp) (hF0 1) ?_))))
 replace hp := hp.tr (Sm.ext he2)
 refine cL ent32 (r06_isp hp oM) rfl ?_
 rintro _ w10 ⟨⟨r, rfl, hisp⟩, he11⟩
 replace hE := hE.nx he11
 refine rV (r_not rfl) (mV (v := (.bool (!r))) rfl ?_)
 rcases Bool.eq_false_or_eq_true (!r) with hb12 | hb12
 ·have hb12p := hb12
  have hout : ¬ (IsP p ∧ ∀ i, get es i ≠ 0 → 0 ≤ i ∧ i < (p.length : Int)) := fun h => absurd (hisp.2 h.1) (by rw [show r = false by simpa using hb12]; decide)
  refine RL.gno rfl rfl (bool_eq hb12) rfl dC ?_
  refine RL.gno rfl rfl (bool_eq hb12) rfl dC ?_
  refine RL.gno rfl rfl (bool_eq hb12) rfl dC ?_
  refine RL.gno rfl rfl (bool_eq hb12) rfl dC ?_
  refine RL.gno rfl rfl (bool_eq hb12) rfl dC ?_
  refine rV (r_pick_t (v := (.bool true)) (bool_eq hb12) rfl) (RL.nil ?_)
  refine wcond_t rfl ?_
  refine wsr (aS (v := (.slice none (0) (0))) rfl (aS (v := (.bool false)) rfl (RL.nil ?_)))
  refine wret ?_
  refine ⟨[(.slice none (0) (0)), (.bool false)], ⟨rfl, ⟨rfl, trivial⟩⟩, ?_⟩
  exact ⟨⟨_, _, rfl, .inl ⟨rfl, rfl, hout⟩⟩, hE⟩
 have hb12p := hb12
 have hr1 : r = true := by simpa using hb12
 refine RL.gval rfl rfl (bool_eq hb12) rfl dC (r_move_as (v := vn3) rfl) ?_
 refine RL.gval rfl rfl (bool_eq hb12) rfl dC (r_move_as (v := vp) (hF0 1)) ?_
 obtain ⟨A13, c14, hv15, hc16, hc17⟩ := hp.len
 refine RL.gval rfl rfl (bool_eq hb12) rfl dC (r_len uT23 hv15) ?_
 replace ho5 := ho5.ext he11
 refine RL.gcall rfl rfl (bool_eq hb12) rfl dC (r_call (vl := [vn3, (iv (p.length : Nat))]) ent33 rfl) (r06_valid (n := p.length) (ho5.ec (D' := (fun b _ => w.heap.size ≤ b)) (fun _ h => h) (fun _ _ h => h.1)) oM oM ha6 hz7) ?_
 rintro _ w18 ⟨⟨rw_, rfl, hvd⟩, he19⟩
 replace hE := hE.nx he19
 refine RL.gval rfl rfl (bool_eq hb12) rfl dC (r_not rfl) ?_
 refine rV (r_pick_f (v := (.bool (!rw_))) (bool_eq hb12) rfl) (RL.nil ?_)
 refine wcond (b := !rw_) rfl (fun hb20 => ?_) (fun hb20 => ?_)
 ·have hb20p := hb20
  have hout : ¬ (IsP p ∧ ∀ i, get es i ≠ 0 → 0 ≤ i ∧ i < (p.length : Int)) := fun h => absurd (hvd.2 fun e he => h.2 _ (by rw [← hg8 e.1, get_mem ha6 he]; exact hz7 e he)) (by rw [show rw_ = false by simpa using hb20]; decide)
  refine wsr (aS (v := (.slice none (0) (0))) rfl (aS (v := (.bool false)) rfl (RL.nil ?_)))
  refine wret ?_
  refine ⟨[(.slice none (0) (0)), (.bool false)], ⟨rfl, ⟨rfl, trivial⟩⟩, ?_⟩
  exact ⟨⟨_, _, rfl, .inl ⟨rfl, rfl, hout⟩⟩, hE⟩
 have hb20p := hb20
 have hv1 : rw_ = true := by simpa using hb20
 refine wskip ?_
 refine wseq ?_
 replace ho5 := ho5.ext he19
 have hO := (ho5.rd (D' := (fun b _ => w.heap.size ≤ b)) (fun _ h => h) (fun _ _ h => h.1)).old
 have hlo : w.heap.size ≤ w18.heap.size := hE.size
 have hEk : Below w18.heap.size w18 w18 := Below.refl _ _
 have hip : IsP p := hisp.1 hr1
 have hin : ∀ e ∈ rs4, 0 ≤ e.1 ∧ e.1 < (p.length : Int) := hvd.1 hv1
 refine wregion (aS (v := (.slice none (0) (0))) rfl (RL.nil (wseq (wsr (aS (v := (iv 0)) rfl (RL.nil ?_))))))
 refine wblock ?_
 refine wset fun F21 hF22 => ?_
 refine wloop (σ := Nat × Value) (fun (s : Nat × Value) fl wl => match s with | (k, vr) => Off (rg 6 2 (rg 20 23 [])) F21 fl ∧ fl 7 = (iv k) ∧ fl 6 = vr ∧ (k ≤ rs4.length) ∧ (Oz M (fun b T => (fun b _ => w.heap.size ≤ b) b T ∧ b < w18.heap.size) wl w18.heap.size 55 vr (pmL p (rs4.take k))) ∧ (Es L (fun b T => Des b T ∧ b < w.heap.size) wl ves es) ∧ (Below w.heap.size w wl) ∧ (Sg (gI .i64) (fun b T => Dp b T ∧ b < w.heap.size) wl vp p) ∧ (Es (M) (fun b T => (fun b _ => w.heap.size ≤ b) b T ∧ b < w18.heap.size) wl vn3 rs4) ∧ (Below w18.heap.size w18 wl)) (fun (s : Nat × Value) => match s with | (k, vr) => rs4.length - k) (0, (.slice none 0 0)) ?_ ?_
 ·have hm23 := Ext.trans he2 (Ext.trans he11 he19)
  replace hes := hes.tr (Sm.ext hm23)
  replace hp := hp.tr (Sm.ext (Ext.trans he11 he19))
  exact ⟨Off.refl _ _, (hF22 7).trans (rfl), (hF22 6).trans (rfl), Nat.zero_le _, Oz.nil, hes, hE, hp, hO, hEk⟩
 clear hes hE hp hO hEk
 rintro ⟨k, vr⟩ f24 w25 ⟨hoff26, hs27, hs28, hk, hR, hes, hE, hp, hO, hEk⟩
 refine wseq (wsr (mV hs27 (mV (v := vn3) ((hoff26 0 rfl).trans (hF22 0)) ?_)))
 obtain ⟨A29, c30, hv31, hc32, hc33⟩ := hO.len
 refine rV (r_len uT22 hv31) (rV (r_lss (k := .i64) (a := (k : Int)) (b := ((rs4.length : Nat) : Int)) rfl rfl) (RL.nil ?_))
 refine wcD (p := (k : Int) < ((rs4.length : Nat) : Int)) rfl (fun hb34 hb34p => ?_) (fun hb34 hb34p => ?_)
 ·refine wskip ?_
  refine wseq ?_
  refine wblock ?_
  have hkl : k < rs4.length := by omega
  have hie := hin _ (getD_mem rs4 k hkl)
  have hskl : (pmL p (rs4.take k)).length = k := by unfold pmL; rw [List.length_map, List.length_take]; omega
  refine wdraw mixed fun w35 he36 => ?_
  replace hE := hE.nx he36
  replace hEk := hEk.nx he36
  refine ra 0 rfl (fun _ => r_move_as (v := vr) hs28) ?_
  refine ra 1 rfl (fun _ => r_move_as (v := vp) ((hoff26 1 rfl).trans ((hF22 1).trans (hF0 1)))) ?_
  refine ra 2 rfl (fun _ => r_move_as (v := vn3) ((hoff26 0 rfl).trans (hF22 0))) ?_
  refine ra 3 rfl (fun _ => r_move_as (v := (iv k)) hs27) ?_
  replace hO := hO.tr (Sm.ext he36)
  obtain ⟨b37, o38, c39, s44, A42, B43, x45, d46, hv40, hc41, hx47, lm48, ln49, hd50, lm51, ln52, eq53⟩ := hO.ix (i := (k : Int)) (k) oM oM
  refine ra 4 rfl (fun _ => r_indexAddr (i := (k : Int)) uT22 ty55 hv40 rfl oM oM) ?_
  refine ra 5 rfl (fun _ => r_fieldAddr uT55 rfl ty3 rfl) ?_
  refine RA.rd 6 rfl kR rfl rfl rfl dC (Ext.refl _) (fun u hu => r_load (v := (iv ((rs4.getD (k) default).1))) uT3 ag3 rfl (cell_ext hu (hc41 0 _ rfl))) ?_
  replace hp := hp.tr (Sm.ext he36)
  obtain ⟨b54, o55, c56, hv57, hc58⟩ := hp.ix (i := (rs4.getD (k) default).1) ((rs4.getD (k) default).1.toNat) oM oM
  refine ra 7 rfl (fun _ => r_indexAddr (i := (rs4.getD (k) default).1) uT23 ty3 hv57 rfl oM oM) ?_
  refine RA.rd 8 rfl kR rfl rfl rfl dC (Ext.refl _) (fun u hu => r_load (v := (iv (p.getD ((rs4.getD (k) default).1.toNat) default))) uT3 ag3 rfl (cell_ext hu hc58)) ?_
  refine ra 9 rfl (fun _ => r_move_as (v := vn3) ((hoff26 0 rfl).trans (hF22 0))) ?_
  refine ra 10 rfl (fun _ => r_move_as (v := (iv k)) hs27) ?_
  obtain ⟨b59, o60, c61, s66, A64, B65, x67, d68, hv62, hc63, hx69, lm70, ln71, hd72, lm73, ln74, eq75⟩ := hO.ix (i := (k : Int)) (k) oM oM
  refine ra 11 rfl (fun _ => r_indexAddr (i := (k : Int)) uT22 ty55 hv62 rfl oM oM) ?_
  refine ra 12 rfl (fun _ => r_fieldAddr uT55 rfl ty44 rfl) ?_
  refine RA.rd 13 rfl kR rfl rfl rfl dC (Ext.refl _) (fun u hu => r_loada (cs := [(.bool s66), (sv A64), (sv B65)]) uT44 ag44 ty44 rfl (fun j v hj => cell_ext hu ((cdrop hc63 1) j v hj))) ?_
  refine ra 14 rfl (fun _ => r_build (vl := [(0, (iv (p.getD ((rs4.getD (k) default).1.toNat) default))), (1, (.agg #[(.bool s66), (sv A64), (sv B65)]))]) (cs := [(iv (p.getD ((rs4.getD (k) default).1.toNat) default)), (.bool s66), (sv A64), (sv B65)]) uT55 ty55 rfl (pl55 uT55) rfl) ?_
  refine RA.all [15] kR rfl ?_
  refine RS.run rfl rfl rfl dC (h_lit (vl := [(0, (.agg #[(iv (p.getD ((rs4.getD (k) default).1.toNat) default)), (.bool s66), (sv A64), (sv B65)]))]) (cs := [(iv (p.getD ((rs4.getD (k) default).1.toNat) default)), (.bool s66), (sv A64), (sv B65)]) uT22 ty55 rfl dC (by first | (simp [Instr.fill, Value.cells]; done) | rfl | kernel_rfl)) ?_ RS.nil
  rintro _ w76 ⟨b77, rfl, hs80, hb79, he78⟩
  refine rm he78 ?_
  have ge_b77 := hE.ge hs80
  have gk_b77 := hEk.ge hs80
  replace hR := hR.ext he36
  have on_vr_b77 : vr.ownBlock ≠ some b77 := fun h => absurd (hR.lt _ h) (by rw [hs80]; exact Nat.lt_irrefl _)
  replace hE := hE.nx he78
  replace hEk := hEk.nx he78
  refine RA.all [16] kR rfl ?_
  replace hR := hR.ext he78
  replace hx69 := hx69.tr (Sm.ext he78)
  replace hd72 := hd72.tr (Sm.ext he78)
  refine RS.run rfl rfl rfl dC (h_appendZ (v1 := vr) (v2 := (.slice (some ⟨b77, 0, none⟩) (1) (1))) (q := (rs4.getD (k) default).2) uT22 ty55 rfl rfl rfl hR (hb79.sc (D := fun _ _ => True) trivial rfl dC) (Rz.of (L := M) hx69 lm70 oM hd72 lm73 oM (show ratOf s66 (val x67) (val d68) = (rs4.getD (k) default).2 from eq75)) (fun b hb hd => absurd hd.2 (Nat.not_lt_of_le hb)) (by simp only [maxLen]; omega) oM hEk.size) ?_ RS.nil
  rintro v82 w81 ⟨ho83, hg84⟩
  refine ⟨.inr (.inl kR), ?_⟩
  replace hE := hR.gbe hg84 hE hlo hE.size
  replace hEk := hR.gbe hg84 hEk (Nat.le_refl _) hEk.size
  refine ra 17 rfl (fun _ => r_assign_as (v := v82) rfl) ?_
  refine RA.done kR ?_
  refine wregion (mV hs27 (rV (r_add (k := .i64) (a := (k : Int)) (b := 1) (c := (k : Int) + 1) rfl rfl (wi64 oM)) (aS (v := (iv ((k : Int) + 1))) rfl (RL.nil ?_))))
  replace hes := (hes.tr (Sm.ext (Ext.trans he36 he78))).tr (hR.gsm hg84 (fun b hb hd => absurd hd.2 (Nat.not_lt_of_le (Nat.le_trans hlo hb))))
  replace hp := (hp.tr (Sm.ext he78)).tr (hR.gsm hg84 (fun b hb hd => absurd hd.2 (Nat.not_lt_of_le (Nat.le_trans hlo hb))))
  replace hO := (hO.tr (Sm.ext he78)).tr (hR.gsm hg84 (fun b hb hd => absurd hd.2 (Nat.not_lt_of_le hb)))
  refine ⟨(k + 1, v82), ⟨?_, ?_, ?_, ?_, ?_, ?_, ?_, ?_, ?_, ?_⟩, ?_⟩
  · exact (by repeat (first | exact hoff26 | refine Off.st ?_ dC _))
  · first | rfl | exact int_eq oM | exact bool_eq (by simp)
  · first | rfl | exact int_eq oM | exact bool_eq (by simp)
  · omega
  · rw [take_snoc rs4 k hkl, pmL, List.map_append]; exact ho83
  · exact hes
  · exact hE
  · exact hp
  · exact hO
  · exact hEk
  (try dsimp only)
  omega
 refine wexit ?_
 refine wseq ?_
 have hRr := hR.rd (D' := DT) (fun _ _ => trivial) (fun _ _ _ => trivial)
 rw [List.take_of_length_le oM] at hRr
 have hpl : (pmL p rs4).length = rs4.length := by unfold pmL; rw [List.length_map]
 refine wregion (mV hs28 ?_)
 refine cL ent31 (r06_norm (es := (pmL p rs4)) (L := M) (M := M2) hRr (by rw [hpl]; exact Nat.le_trans (Nat.add_le_add_right (Nat.mul_le_mul_right _ oM) _) hM2) hMB2 oM) rfl ?_
 rintro vn87 w85 ⟨⟨rs88, ho89, ha90, hz91, hg92, hl93⟩, he86⟩
 replace ho89 := Oe.fr (D' := (fun b T => w.heap.size ≤ b ∧ T = 89)) (lo' := w.heap.size) ho89 hE.size (fun _ _ h => ⟨Nat.le_trans hE.size h.1, h.2⟩)
 replace hE := hE.nx he86
 replace hEk := hEk.nx he86
 refine aS (v := vn87) rfl (aS (v := (.bool true)) rfl (RL.nil ?_))
 refine wret ?_
 refine ⟨[vn87, (.bool true)], ⟨rfl, ⟨rfl, trivial⟩⟩, ?_⟩
 exact ⟨⟨_, _, rfl, .inr ⟨rfl, ⟨hip, fun i hi => cov_of hin (by rw [hg8 i]; exact hi)⟩, rs4, rs88, ho89.ec (fun _ h => h) (fun _ _ h => h.1), ha90, hz91, hg92, ha6, hz7, hg8⟩⟩, hE⟩
end Go.Proofs.YtelbjmhhbeijkaaGreat
namespace Go.Proofs.YtelbjmhhbeijkaaGreat
open Go.Vg Go.RowKit _root_.Go.Proofs.Tryz
set_option linter.unusedVariables false
open Go.Vm
theorem sh_rng {v : List Ent'} {e : Ent'} (he : e ∈ shL v) : -1 ≤ e.1 ∧ e.1 < 8 := by
  unfold shL at he
  obtain ⟨x, _, rfl⟩ := List.mem_map.1 he
  have := modF_range x.1 9 dC
  show -1 ≤ modF x.1 9 - 1 ∧ modF x.1 9 - 1 < 8
  omega
theorem sh12 (v : List Ent') : ∀ r : List Ent', Asc r → NonZ r → (∀ i, get r i = get (shL v) i) → r.length ≤ 12 := fun r ha hz hg => by
  have h1 := pigeon (l := r.map Prod.fst) (m := (List.range 9).map fun (n : Nat) => (n : Int) - 1) (List.pairwise_map.2 (ha.imp fun h => by omega)) (fun x hx => by
    obtain ⟨e, he, rfl⟩ := List.mem_map.1 hx
    rcases Classical.em (∃ x ∈ shL v, x.1 = e.1) with ⟨x, hx, h⟩ | h
    · have := sh_rng hx
      exact List.mem_map.2 ⟨(e.1 + 1).toNat, List.mem_range.2 oM, by show (((e.1 + 1).toNat : Nat) : Int) - 1 = e.1; omega⟩
    have h2 := get_none (a := shL v) (i := e.1) (fun x hx hh => h ⟨x, hx, hh⟩)
    rw [← hg, get_mem ha he] at h2
    exact absurd h2 (hz e he))
  rw [List.length_map, List.length_map, List.length_range] at h1
  omega
theorem Ec.nil {L : Nat} {D : Nat → TypeId → Prop} {w : World} : Ec L D w (.slice none 0 0) [] := ⟨[], Ss.nil dC, Fe.nil⟩
theorem perm_same {w1 w2 : World} {M1 M2 : Nat} {D1 D2 : Nat → TypeId → Prop} {x : List Ent'} {p : List Int} {ok1 ok2 : Bool} {v1 v2 : Value} {C : Prop} (h1 : (ok1 = false ∧ v1 = .slice none 0 0 ∧ ¬ C) ∨ (ok1 = true ∧ C ∧ ∃ r0 rs, Ec M1 D1 w1 v1 rs ∧ Asc rs ∧ NonZ rs ∧ (∀ i, get rs i = get (pmL p r0) i) ∧ Asc r0 ∧ NonZ r0 ∧ ∀ i, get r0 i = get x i))
    (h2 : (ok2 = false ∧ v2 = .slice none 0 0 ∧ ¬ C) ∨ (ok2 = true ∧ C ∧ ∃ r0 rs, Ec M2 D2 w2 v2 rs ∧ Asc rs ∧ NonZ rs ∧ (∀ i, get rs i = get (pmL p r0) i) ∧ Asc r0 ∧ NonZ r0 ∧ ∀ i, get r0 i = get x i)) (he : Ext w1 w2) (hM : M1 ≤ M2) : ok1 = ok2 ∧ ∃ rs, Ec M2 D1 w2 v1 rs ∧ Ec M2 D2 w2 v2 rs := by
  rcases h1 with ⟨a1, a2, a3⟩ | ⟨a1, a2, r0, rs, b1, b2, b3, b4, b5, b6, b7⟩ <;> rcases h2 with ⟨c1, c2, c3⟩ | ⟨c1, c2, s0, ss, d1, d2, d3, d4, d5, d6, d7⟩
  · rw [a1, c1, a2, c2]; exact ⟨rfl, [], Ec.nil, Ec.nil⟩
  · exact absurd c2 a3
  · exact absurd a2 c3
  have e1 : r0 = s0 := canon_ext _ _ b5 d5 b6 d6 (fun i => by rw [b7, d7])
  subst e1
  have e2 : rs = ss := canon_ext _ _ b2 d2 b3 d3 (fun i => by rw [b4, d4])
  subst e2
  exact ⟨a1.trans c1.symm, rs, (b1.tr (Sm.ext he)).wide hM, d1⟩
set_option maxHeartbeats 4000000 in
theorem l_permutes {w : World} {Da : Nat → TypeId → Prop} {va : Value} {a : List Ent'} (ha : Es 1048576 Da w va a) {Dp : Nat → TypeId → Prop} {vp : Value} {p : List Int} (hp0 : Sg (gI .i64) Dp w vp p) {Dc : Nat → TypeId → Prop} {vc : Value} {cs : List Int} (hc0 : Sg (gI .i64) Dc w vc cs) :
    Calls Tryz.prog 3 #[va, vp, vc] w fun e w' => ∃ v, e = .returned v ∧ v = .bool true ∧ Ext w w' := by
 have hE : Below w.heap.size w w := Below.refl _ _
 have hp := hp0.old
 have hc := hc0.old
 clear hc0 hp0
 refine calls_of (n := 54) (rs := [.tmp 6]) func3 rfl rfl rfl bL ?_
 refine wset fun F0 hF0 => ?_
 refine wsr (aS (v := (.bool false)) rfl (RL.nil (wsr (mV (v := va) (hF0 0) ?_))))
 refine cL ent6 (l_short (L := 1048576) ha) rfl ?_
 rintro vs3 w1 ⟨hr4, he2⟩
 replace hE := hE.nx he2
 have hsl5 := shL_len a
 refine mV (v := vp) (hF0 1) ?_
 replace hp := hp.tr (Sm.ext he2)
 refine cL (vl := [vp, (iv 40)]) ent7 (h_firsti (n := 40) hp dC) rfl ?_
 rintro vf8 w6 ⟨hr9, he7⟩
 replace hE := hE.nx he7
 refine aS (v := vs3) rfl (aS (v := vf8) rfl (RL.nil (wseq ?_)))
 replace hr4 := hr4.tr (Sm.ext he7)
 have hOv := hr4.old
 have hlo : w.heap.size ≤ w6.heap.size := hE.size
 have hEk : Below w6.heap.size w6 w6 := Below.refl _ _
 refine wregion (mV (v := vc) (hF0 2) ?_)
 replace hc := hc.tr (Sm.ext (Ext.trans he2 he7))
 refine cL ent8 (t_new hc) rfl ?_
 rintro _ w10 ⟨⟨bt11, rfl, ge_bt11, hbt13⟩, he12⟩
 have gk_bt11 := Nat.le_trans hEk.size ge_bt11
 replace ge_bt11 := Nat.le_trans hE.size ge_bt11
 replace hE := hE.nx he12
 replace hEk := hEk.nx he12
 refine aS (v := (.pointer (some ⟨bt11, 0, none⟩))) rfl (RL.nil (wseq (wsr (mV (v := vf8) rfl (mV (v := (.pointer (some ⟨bt11, 0, none⟩))) rfl (mV (v := (.pointer (some ⟨bt11, 0, none⟩))) rfl ?_))))))
 replace hc := hc.tr (Sm.ext he12)
 refine cL ent10 (t_next (n := 10) oM oM (at0 := 0) hbt13 hc (Nat.zero_le _) (fun T hd => absurd hd.2 (Nat.not_lt_of_le ge_bt11))) rfl ?_
 rintro _ w14 ⟨⟨r15, at16, rfl, hr17, ha18, hb19⟩, hx20⟩
 replace hE := hE.nb hx20 ge_bt11
 replace hEk := hEk.nb hx20 gk_bt11
 have nb_hx20 := (Nb.of hbt13 (nu_cons hc.nu (nu_cons rfl nu_nil)))
 replace hbt13 := hb19
 replace hc := hc.tr (Sm.exc hx20 (fun _ _ _ _ hd => absurd hd.2 (Nat.not_lt_of_le ge_bt11)))
 refine cL ent9 (t_perm (n := r15) oM (at0 := at16) hbt13 hc (ha18) (fun T hd => absurd hd.2 (Nat.not_lt_of_le ge_bt11))) rfl ?_
 rintro vp30 w21 ⟨⟨p22, at23, ha24, hb25, hP26, hl27, hp28⟩, hx29⟩
 replace hE := hE.nb hx29 ge_bt11
 replace hEk := hEk.nb hx29 gk_bt11
 have nb_hx29 := (Nb.of hbt13 (nu_cons hc.nu (nu_cons rfl nu_nil)))
 replace hbt13 := hb25
 refine rU (h_lit (vl := [(0, vf8), (1, vp30)]) (cs := [vf8, vp30]) uT30 ty23 rfl dC (by obtain ⟨_, _, e0_, -, -⟩ := hr9.len; obtain ⟨_, _, e1_, -, -⟩ := hP26.len; simp only [e0_, e1_]; first | (simp [Instr.fill, Value.cells]; done) | kernel_rfl)) ?_
 rintro _ w31 ⟨b32, rfl, hs35, hb34, he33⟩
 have ge_b32 := hE.ge hs35
 have gk_b32 := hEk.ge hs35
 replace hE := hE.nx he33
 replace hEk := hEk.nx he33
 refine rV (r_len uT30 rfl) (mV (v := (iv 0)) rfl (RL.nil ?_))
 refine wblock ?_
 refine wset fun F36 hF37 => ?_
 refine wloop (σ := Nat) (fun (k : Nat) fl wl => Off (6 :: (rg 9 5 (rg 27 26 []))) F36 fl ∧ fl 27 = (iv k) ∧ (k ≤ 2) ∧ (Sg (gI .i64) (fun b T => Dp b T ∧ b < w.heap.size) wl vp p) ∧ (Sg (gI .i64) (fun b T => Dc b T ∧ b < w.heap.size) wl vc cs) ∧ (Below w.heap.size w wl) ∧ (Sg (gI .i64) (fun b T => Dp b T ∧ b < w.heap.size) wl vf8 (p.take 40)) ∧ (Es (1048576) (fun b T => (fun b T => (Da b T ∧ b < w.heap.size) ∨ w.heap.size ≤ b) b T ∧ b < w6.heap.size) wl vs3 (shL a)) ∧ (Below w6.heap.size w6 wl) ∧ (Bk wl bt11 58 [vc, (iv at23)]) ∧ (Sg (gI .i64) (fun b _ => w14.heap.size ≤ b) wl vp30 p22) ∧ (Bk wl b32 23 [vf8, vp30])) (fun (k : Nat) => 2 - k) (0) ?_ ?_
 ·replace hp := (((hp.tr (Sm.ext (Ext.trans he7 he12))).tr (Sm.exc hx20 (fun _ _ _ _ hd => absurd hd.2 (Nat.not_lt_of_le ge_bt11)))).tr (Sm.exc hx29 (fun _ _ _ _ hd => absurd hd.2 (Nat.not_lt_of_le ge_bt11)))).tr (Sm.ext he33)
  replace hc := (hc.tr (Sm.exc hx29 (fun _ _ _ _ hd => absurd hd.2 (Nat.not_lt_of_le ge_bt11)))).tr (Sm.ext he33)
  replace hr9 := (((hr9.tr (Sm.ext he12)).tr (Sm.exc hx20 (fun _ _ _ _ hd => absurd hd.2 (Nat.not_lt_of_le ge_bt11)))).tr (Sm.exc hx29 (fun _ _ _ _ hd => absurd hd.2 (Nat.not_lt_of_le ge_bt11)))).tr (Sm.ext he33)
  replace hOv := (((hOv.tr (Sm.ext he12)).tr (Sm.exc hx20 (fun _ _ _ _ hd => absurd hd.2 (Nat.not_lt_of_le gk_bt11)))).tr (Sm.exc hx29 (fun _ _ _ _ hd => absurd hd.2 (Nat.not_lt_of_le gk_bt11)))).tr (Sm.ext he33)
  replace hbt13 := hbt13.ext he33
  replace hP26 := hP26.tr (Sm.ext he33)
  exact ⟨Off.refl _ _, (hF37 27).trans (rfl), Nat.zero_le _, hp, hc, hE, hr9, hOv, hEk, hbt13, hP26, hb34⟩
 clear ha hp hc hE hr9 hOv hEk hbt13 hP26 hb34
 rintro k f38 w39 ⟨hoff40, hs41, hk, hp, hc, hE, hr9, hOv, hEk, hbt13, hP26, hb34⟩
 refine wsr (rV (r_lss (k := .i64) (a := (k : Int)) (b := ((2 : Nat) : Int)) hs41 ((hoff40 26 rfl).trans (hF37 26))) (RL.nil (wseq ?_)))
 refine wcD (p := (k : Int) < ((2 : Nat) : Int)) rfl (fun hb42 hb42p => ?_) (fun hb42 hb42p => ?_)
 ·refine wskip ?_
  refine wseq ?_
  refine wblock ?_
  refine wseq ?_
  obtain ⟨vq, pq, hcq, hSq, hlq⟩ : ∃ vq pq, w39.cell? ⟨b32, 0 + (k : Int).toNat * 1, none⟩ = some vq ∧ Sg (gI .i64) DT w39 vq pq ∧ pq.length ≤ 40 := by rcases (show k = 0 ∨ k = 1 by omega) with rfl | rfl <;> first | exact ⟨_, _, hb34.cell (j := 0) rfl, hr9.mono (fun _ _ _ => trivial), by rw [List.length_take]; omega⟩ | exact ⟨_, _, hb34.cell (j := 1) rfl, hP26.mono (fun _ _ _ => trivial), by omega⟩
  refine wregion (rV (r_indexAddr (i := (k : Int)) uT30 ty23 ((hoff40 25 rfl).trans (hF37 25)) hs41 oM oM) (rV (r_load (v := vq) uT23 ag23 rfl hcq) (aS (v := vq) rfl (RL.nil (wsr (mV (v := vs3) ((hoff40 0 rfl).trans (hF37 0)) (mV (v := vq) rfl ?_)))))))
  refine cL (vl := [vs3, vq]) ent11 (v_permute (x := (shL a)) (L := 1048576) (M := 42991739) (p := pq) hOv (.inr (fit_le (m := 40) oM dC)) oM dC hSq oM (sh12 _)) rfl ?_
  rintro vt45 w43 ⟨⟨vr46, ok47, rfl, hdis48⟩, he44⟩
  replace hE := hE.nx he44
  replace hEk := hEk.nx he44
  refine mV (v := (.tuple #[vr46, (.bool ok47)])) rfl (rV (r_extract (v := vr46) rfl rfl) (rV (r_extract (v := (.bool ok47)) rfl rfl) (aS (v := vr46) rfl (aS (v := (.bool ok47)) rfl (RL.nil (wsr (mV (v := vs3) ((hoff40 0 rfl).trans (hF37 0)) (mV (v := vq) rfl ?_))))))))
  replace hOv := hOv.tr (Sm.ext he44)
  replace hSq := hSq.tr (Sm.ext he44)
  refine cL (vl := [vs3, vq]) ent12 (r06_permute (L := 1048576) (M := 42991742) (M2 := 1762661548) (p := pq) hOv oM dC oM hSq oM oM dC) rfl ?_
  rintro vt51 w49 ⟨⟨vr52, ok53, rfl, hdis54⟩, he50⟩
  replace hE := hE.nx he50
  replace hEk := hEk.nx he50
  obtain ⟨hok58, rs55, hp56, hp57⟩ := perm_same hdis48 hdis54 he50 dC
  subst hok58
  replace hp56 := hp56.mono (D' := DT) (fun _ _ _ => trivial)
  replace hp57 := hp57.mono (D' := DT) (fun _ _ _ => trivial)
  refine mV (v := (.tuple #[vr52, (.bool ok47)])) rfl (rV (r_extract (v := vr52) rfl rfl) (rV (r_extract (v := (.bool ok47)) rfl rfl) (aS (v := vr52) rfl (aS (v := (.bool ok47)) rfl (RL.nil (wsr (mV (v := (.bool ok47)) rfl (mV (v := (.bool ok47)) rfl (rV (r_neqb uT4 rfl rfl) (mV (v := (.bool (ok47 != ok47))) rfl ?_))))))))))
  rcases Bool.eq_false_or_eq_true (ok47 != ok47) with hb59 | hb59
  ·have hb59p := hb59
   exact absurd hb59 (by simp)
  have hb59p := hb59
  refine RL.gval rfl rfl (bool_eq hb59) rfl dC (r_move_as (v := vr46) rfl) ?_
  refine RL.gval rfl rfl (bool_eq hb59) rfl dC (r_move_as (v := vr52) rfl) ?_
  refine RL.gcall rfl rfl (bool_eq hb59) rfl dC (r_call (vl := [vr46, vr52]) ent13 rfl) (r06_ident (L := 1762661548) (es := rs55) (hp56.wide oM) (hp57.wide oM) oM) ?_
  rintro _ w60 ⟨rfl, he61⟩
  replace hE := hE.nx he61
  replace hEk := hEk.nx he61
  refine RL.gval rfl rfl (bool_eq hb59) rfl dC (r_not rfl) ?_
  refine rV (r_pick_f (v := (.bool false)) (bool_eq hb59) rfl) (RL.nil ?_)
  refine wcond_f rfl ?_
  refine wskip ?_
  refine wregion (rV (r_add (k := .i64) (a := (k : Int)) (b := 1) (c := (k : Int) + 1) hs41 rfl (wi64 oM)) (mV (v := (iv ((k : Int) + 1))) rfl (RL.nil ?_)))
  have hm62 := Ext.trans he44 (Ext.trans he50 he61)
  replace hp := hp.tr (Sm.ext hm62)
  replace hc := hc.tr (Sm.ext hm62)
  replace hr9 := hr9.tr (Sm.ext hm62)
  replace hOv := hOv.tr (Sm.ext (Ext.trans he50 he61))
  replace hbt13 := hbt13.ext hm62
  replace hP26 := hP26.tr (Sm.ext hm62)
  replace hb34 := hb34.ext hm62
  refine ⟨(k + 1), ⟨?_, ?_, ?_, ?_, ?_, ?_, ?_, ?_, ?_, ?_, ?_, ?_⟩, ?_⟩
  · exact (by repeat (first | exact hoff40 | refine Off.st ?_ dC _))
  · first | rfl | exact int_eq oM | exact bool_eq (by simp)
  · omega
  · exact hp
  · exact hc
  · exact hE
  · exact hr9
  · exact hOv
  · exact hEk
  · exact hbt13
  · exact hP26
  · exact hb34
  (try dsimp only)
  omega
 refine wexit ?_
 refine wsr ?_
 refine cL ent14 (l_awake) rfl ?_
 rintro _ w63 ⟨rfl, he64⟩
 replace hE := hE.nx he64
 replace hEk := hEk.nx he64
 refine aS (v := (.bool true)) rfl (RL.nil ?_)
 refine wret ?_
 refine ⟨[(.bool true)], ⟨rfl, trivial⟩, ?_⟩
 exact ⟨rfl, hE⟩
end Go.Proofs.YtelbjmhhbeijkaaGreat
namespace Go.Proofs.YtelbjmhhbeijkaaGreat
open Go.Vg Go.RowKit Go.Vm Go.ChangeShapes Go.WideShapes _root_.Go.Proofs.Tryz
namespace bulks
theorem one_le {H : Type} (d : DataW H) : 1 ≤ Rows.uptoBulk d := by
  cases d with
  | lit l => cases l <;> simp [Rows.uptoBulk]
  | nil => simp [Rows.uptoBulk]
  | ptr d => simp [Rows.uptoBulk]
  | slice elems spare => simp [Rows.uptoBulk]
  | agg parts => simp [Rows.uptoBulk]
  | iface t d => simp [Rows.uptoBulk]
  | map entries => simp [Rows.uptoBulk]
  | held h => simp [Rows.uptoBulk]
theorem part_le {H : Type} {d : DataW H} {l : List (DataW H)} (h : d ∈ l) : Rows.uptoBulk d ≤ Rows.uptoBulkAll l := by
  induction l with
  | nil => cases h
  | cons x r ih =>
    simp only [Rows.uptoBulkAll]
    cases List.mem_cons.1 h with
    | inl e => subst e; omega
    | inr e => have := ih e; omega
theorem length_le {H : Type} (l : List (DataW H)) : l.length ≤ Rows.uptoBulkAll l := by
  induction l with
  | nil => simp [Rows.uptoBulkAll]
  | cons x r ih => have := one_le x; simp only [Rows.uptoBulkAll, List.length_cons]; omega
end bulks
section
variable {H : Type} {enc : TypeId × Value → H} {w : World} {base : Nat} {spare : Nat → Bool} {held : Bool}
theorem flat_one (xs : List Nat) : (xs.map fun n : Nat => [(.int .u32 (n : Int) : Value)]).flatten = xs.map (gN .u32) := by
  induction xs with
  | nil => rfl
  | cons a l ih => rw [List.map_cons, List.flatten_cons, ih]; rfl
theorem sg_of_cells {x : Addr} {len cap : Nat} {xs : List Nat} (hl : xs.length = len) (hlc : len ≤ cap) (hm : cap ≤ maxLen) (hc : ∀ i, i < len → w.cell? (x.add i) = some (.int .u32 ((xs.getD i default : Nat) : Int))) : Sg (gN .u32) DT w (.slice (some x) len cap) xs := by
  have h := Ss.of_cells (c := fun n : Nat => [(.int .u32 (n : Int) : Value)]) (size := 1) (by decide) (fun _ => rfl) (w := w) (x := x) hl hlc hm (fun i hi j u hj => by
    match j, hj with
    | 0, hj =>
      have e : u = .int .u32 ((xs.getD i default : Nat) : Int) := by simpa using hj.symm
      rw [e]
      have := hc i hi
      simpa using this
    | j + 1, hj => simp at hj)
  obtain ⟨_, h2⟩ := h
  rw [flat_one] at h2
  exact h2
theorem open_limbs {fuel : Nat} {v : Value} {x : DataW H × List MemPlace} (h : DataW.trod enc Tryz.prog w base spare held fuel 40 [v] = some x) : ∃ (A : SV) (xs : List Nat), v = sv A ∧ Sg (gN .u32) DT w (sv A) xs ∧ Lm xs ∧ xs.length ≤ Rows.uptoBulk x.1 := by
  rcases Go.Deep.open_slice underlying40 h with ⟨hcs, _⟩ | ⟨a, len, cap, m, n, D, Pl, hcs, hb, hl, hm, hmm, rfl, hx⟩
  · injection hcs with hcs
    exact ⟨(none, 0, 0), [], hcs, Sg.nil, Lm.nil, Nat.zero_le _⟩
  injection hcs with hcs
  have hlm : len ≤ m := by rw [hmm]; split <;> omega
  have each : ∀ i, i < len → ∃ z : Nat, w.cell? (a.add i) = some (.int .u32 (z : Int)) ∧ z < 4294967296 := fun i hi => by
    obtain ⟨cs', h1, h2⟩ := hx i (by omega)
    have ce : Tryz.prog.cellsOf 89 = 1 := by kernel_rfl
    rw [ce] at h1
    obtain ⟨_, hlen, hcell⟩ := World.cells?_some h1
    obtain ⟨z, rfl, _, hwf⟩ := DataW.trod_int underlying89 h2
    have e0 := hcell 0 (by omega)
    rw [Go.Deep.add_add] at e0
    have hr : 0 ≤ z ∧ z < 4294967296 := by simp [Lit.wf, IntKind.min, IntKind.max, IntKind.signed, IntKind.bits] at hwf; omega
    refine ⟨z.toNat, ?_, by omega⟩
    rw [show ((z.toNat : Nat) : Int) = z by omega]
    simpa using e0
  obtain ⟨q, hq⟩ := Go.Deep.choose_lt each
  refine ⟨(some a, len, cap), byR q len, hcs, sg_of_cells (length_byR ..) hl hm (fun i hi => by rw [byR_at hi]; exact (hq i hi).1), fun z hz => ?_, ?_⟩
  · obtain ⟨i, hi, rfl⟩ := List.getElem_of_mem hz
    rw [length_byR] at hi
    have := (hq i hi).2
    have e := byR_at (f := q) hi
    simp only [List.getD_eq_getElem?_getD] at e
    rw [List.getElem?_eq_getElem (by rw [length_byR]; exact hi), Option.getD_some] at e
    rw [e]; exact this
  have := bulks.length_le ((List.range len).map D)
  simp only [Rows.uptoBulk]
  rw [length_byR]
  simp only [List.length_map, List.length_range] at this
  omega
theorem list4 {l : List Value} (h : l.length = 4) : ∃ a b c d, l = [a, b, c, d] := by
  match l, h with
  | [a, b, c, d], _ => exact ⟨a, b, c, d, rfl⟩
theorem list2' {α : Type} {l : List α} (h : l.length = 2) : ∃ a b, l = [a, b] := by
  match l, h with
  | [a, b], _ => exact ⟨a, b, rfl⟩
theorem open_rat {fuel : Nat} {c1 c2 c3 : Value} {x : DataW H × List MemPlace} (h : DataW.trod enc Tryz.prog w base spare held fuel 44 [c1, c2, c3] = some x) :
    ∃ (s : Bool) (A B : SV), c1 = .bool s ∧ c2 = sv A ∧ c3 = sv B ∧ ∃ q, Rz (Rows.uptoBulk x.1) DT w (s, sv A, sv B) q := by
  obtain ⟨xs, n, _, hxy, _, hxl, hf⟩ := DataW.trod_struct underlying44 h
  have g0 := hf 0 _ rfl
  have g1 := hf 1 _ rfl
  have ci : Tryz.prog.cellsOf 42 = 2 := by kernel_rfl
  have cs : Tryz.prog.cellsOf 40 = 1 := by kernel_rfl
  have cb : Tryz.prog.cellsOf 4 = 1 := by kernel_rfl
  obtain ⟨y0, y1, rfl⟩ := list2' hxl
  simp [ci, cs] at g0 g1
  obtain ⟨zs, n2, _, hzy, _, hzl, hz⟩ := DataW.trod_struct underlying42 g0
  have k0 := hz 0 _ rfl
  have k1 := hz 1 _ rfl
  obtain ⟨z0, z1, rfl⟩ := list2' hzl
  simp [cb, cs] at k0 k1
  obtain ⟨s, e1, _⟩ := DataW.trod_bool underlying4 k0
  obtain ⟨A, xa, e2, ha, la, ba⟩ := open_limbs k1
  obtain ⟨B, xb, e3, hb, lb, bb⟩ := open_limbs g1
  have e1' : c1 = .bool s := by simpa using e1
  refine ⟨s, A, B, e1', e2, e3, _, xa, xb, ha, la, ?_, hb, lb, ?_, rfl⟩
  · rw [hxy]
    simp only [Rows.uptoBulk, List.map_cons, List.map_nil, Rows.uptoBulkAll]
    rw [hzy]
    simp only [Rows.uptoBulk, List.map_cons, List.map_nil, Rows.uptoBulkAll]
    omega
  rw [hxy]
  simp only [Rows.uptoBulk, List.map_cons, List.map_nil, Rows.uptoBulkAll]
  omega
theorem open_entries {fuel : Nat} {a0 : Option Addr} {len0 cap0 : Nat} {x : DataW H × List MemPlace} (h : DataW.trod enc Tryz.prog w base spare held fuel 22 [.slice a0 len0 cap0] = some x) (hk : Rows.uptoBulk x.1 ≤ 1048576) :
    ∃ es, Es 1048576 DT w (.slice a0 len0 cap0) es ∧ es.length ≤ 1048576 := by
  rcases Go.Deep.open_slice underlying22 h with ⟨hcs, _⟩ | ⟨a, len, cap, m, n, D, Pl, hcs, hb, hl, hm, hmm, rfl, hx⟩
  · injection hcs with hcs
    rw [hcs]
    exact ⟨[], Es.nil, Nat.zero_le _⟩
  injection hcs with hcs
  injection hcs with h1 h2 h3
  subst h1 h2 h3
  have hlm : len0 ≤ m := by rw [hmm]; split <;> omega
  have hbulk : Rows.uptoBulkAll ((List.range len0).map D) ≤ 1048576 := by simp only [Rows.uptoBulk] at hk; omega
  have each : ∀ i, i < len0 → ∃ p : EC × Rat, (∀ j u, (entC p.1)[j]? = some u → w.cell? (a.add (i * 4 + j)) = some u) ∧ Rz 1048576 DT w (rcOf p.1) p.2 := fun i hi => by
    obtain ⟨cs', h1, h2⟩ := hx i (by omega)
    have ce : Tryz.prog.cellsOf 55 = 4 := by kernel_rfl
    have ci : Tryz.prog.cellsOf 3 = 1 := by kernel_rfl
    have cr : Tryz.prog.cellsOf 44 = 3 := by kernel_rfl
    rw [ce] at h1
    obtain ⟨_, hlen, hcell⟩ := World.cells?_some h1
    obtain ⟨c0, c1, c2, c3, rfl⟩ := list4 hlen
    obtain ⟨xs, n2, _, hxy, _, hxl, hf⟩ := DataW.trod_struct underlying55 h2
    have g0 := hf 0 _ rfl
    have g1 := hf 1 _ rfl
    obtain ⟨y0, y1, rfl⟩ := list2' hxl
    simp [ci, cr] at g0 g1
    obtain ⟨z, e0, _, _⟩ := DataW.trod_int underlying3 g0
    obtain ⟨s, A, B, e1, e2, e3, q, hq⟩ := open_rat g1
    have e0' : c0 = .int .i64 z := by simpa using e0
    subst e0' e1 e2 e3
    refine ⟨((z, s, A, B), q), fun j u hj => ?_, hq.wide ?_⟩
    · have hj4 : j < 4 := by
        rcases Nat.lt_or_ge j 4 with h | h
        · exact h
        rw [List.getElem?_eq_none (by simpa using h)] at hj; cases hj
      have := hcell j hj4
      rw [Go.Deep.add_add] at this
      rw [this]; exact hj
    have h5 := bulks.part_le (d := D i) (l := (List.range len0).map D) (List.mem_map.2 ⟨i, List.mem_range.2 hi, rfl⟩)
    have h6 : (D i) = .agg [y0.1, y1.1] := by simpa using congrArg Prod.fst hxy
    rw [h6] at h5
    simp only [Rows.uptoBulk, Rows.uptoBulkAll] at h5
    omega
  obtain ⟨q, hq⟩ := Go.Deep.choose_lt each
  have hss := Ss.of_cells (c := entC) (size := 4) (by decide) entC_len (w := w) (x := a) (xs := byR (fun i => (q i).1) len0) (length_byR ..) hl hm (fun i hi j u hj => by rw [byR_at hi] at hj; exact (hq i hi).1 j u hj)
  refine ⟨byR (fun i => ((q i).1.1, (q i).2)) len0, ⟨_, hss, by rw [length_byR, length_byR], fun k hk => ?_⟩, ?_⟩
  · rw [length_byR] at hk
    rw [byR_at hk, byR_at hk]
    exact ⟨rfl, (hq k hk).2⟩
  have := bulks.length_le ((List.range len0).map D)
  rw [List.length_map, List.length_range] at this
  rw [length_byR]
  omega
end
end Go.Proofs.YtelbjmhhbeijkaaGreat
