/- VectorDense, second form: for arguments of bulk at most 1048576 the law returns true and the arguments read as before; no other condition. Part 2 of 8: Rb Rd Re Rc Mrat Msel Vgl Rf Na Mknu. -/
import Derived.Test.YtelbjmhhbeijkaaGreatK1
set_option linter.unusedVariables false
set_option linter.unusedSimpArgs false
namespace Go.Proofs.YtelbjmhhbeijkaaGreat
open Go.Vg Go.RowKit _root_.Go.Proofs.Tryz
set_option linter.unusedVariables false
open Go.Vm
theorem cmpI_neg {a b : Int} : cmpI a b < 0 ↔ a < b := by unfold cmpI; constructor <;> intro h <;> (repeat split at *) <;> omega
theorem cmpI_zero {a b : Int} : cmpI a b = 0 ↔ a = b := by unfold cmpI; constructor <;> intro h <;> (repeat split at *) <;> omega
set_option maxHeartbeats 1000000 in
theorem r01_add {w : World} {Dx : Nat → TypeId → Prop} {vx : Value} {x : List Nat} (hx0 : Sg (gN .u32) Dx w vx x) (lmx : Lm x) (lnx : x.length ≤ 1099511627776) {Dy : Nat → TypeId → Prop} {vy : Value} {y : List Nat} (hy0 : Sg (gN .u32) Dy w vy y) (lmy : Lm y) (lny : y.length ≤ 1099511627776) :
    Calls Tryz.prog 118 #[vx, vy] w fun e w' => ∃ v, e = .returned v ∧ Sg (gN .u32) (fun b T => w.heap.size ≤ b ∧ T = 89) w' v (digs (val x + val y)) ∧ Ext w w' := by
 have hE : Below w.heap.size w w := Below.refl _ _
 have hx := hx0.old
 clear hx0
 have hy := hy0.old
 clear hy0
 refine calls_of (n := 52) (rs := [.tmp 4]) func118 rfl rfl rfl bL ?_
 refine wset fun F0 hF0 => ?_
 refine wsr (aS (v := (.slice none (0) (0))) rfl (RL.nil (wsr (mV (v := vx) (hF0 0) ?_))))
 obtain ⟨A1, c2, hv3, hc4, hc5⟩ := hx.len
 refine rV (r_len uT40 hv3) (mV (v := vy) (hF0 1) ?_)
 obtain ⟨A6, c7, hv8, hc9, hc10⟩ := hy.len
 refine rV (r_len uT40 hv8) (rV (r_max2 (a := ((x.length : Nat) : Int)) (b := ((y.length : Nat) : Int)) rfl rfl) (rV (r_add (k := .i64) (a := if ((y.length : Nat) : Int) > ((x.length : Nat) : Int) then ((y.length : Nat) : Int) else ((x.length : Nat) : Int)) (b := 1) (c := (if ((y.length : Nat) : Int) > ((x.length : Nat) : Int) then ((y.length : Nat) : Int) else ((x.length : Nat) : Int)) + 1) rfl rfl (wi64 oM)) ?_))
 obtain ⟨m, hm⟩ : ∃ m : Nat, m = max x.length y.length + 1 := ⟨_, rfl⟩
 have hn16 : ((if ((y.length : Nat) : Int) > ((x.length : Nat) : Int) then ((y.length : Nat) : Int) else ((x.length : Nat) : Int)) + 1 : Int) = (m : Int) := by (repeat split) <;> omega
 refine rU (h_make1 (n := m) uT40 ty89 rfl (int_eq hn16) (int_eq hn16) oM oM) ?_
 rintro _ w11 ⟨b12, rfl, hs15, hb14, he13⟩
 have he13z := he13.size
 replace hx := hx.tr (Sm.ext he13)
 replace hy := hy.tr (Sm.ext he13)
 replace hE := Below.ext hE oM he13
 replace hb14 := Ar.made (g := (gN .u32)) (z := (0 : Nat)) hb14 rfl
 have hb14l := hb14.lt
 refine aS (v := (.slice (some ⟨b12, 0, none⟩) (m) (m))) rfl (RL.nil (wsr (aS (v := (.int .u64 0)) rfl (RL.nil (wseq (wsr (aS (v := (iv 0)) rfl (RL.nil ?_))))))))
 refine wblock ?_
 refine wset fun F17 hF18 => ?_
 refine wloop (σ := Nat × Nat × List Nat) (fun (s : Nat × Nat × List Nat) fl wl => match s with | (k, c, P) => Off (rg 6 2 (rg 15 35 [])) F17 fl ∧ fl 7 = (iv k) ∧ fl 6 = (.int .u64 (c : Int)) ∧ (k ≤ m) ∧ (P.length = k) ∧ (Lm P) ∧ (c ≤ 1) ∧ (val P + 4294967296 ^ k * c = val (x.take k) + val (y.take k)) ∧ (Sg (gN .u32) (fun b T => Dx b T ∧ b < w.heap.size) wl vx x) ∧ (Sg (gN .u32) (fun b T => Dy b T ∧ b < w.heap.size) wl vy y) ∧ (Ar (gN .u32) wl b12 89 0 (fillN P m) m) ∧ (Below w.heap.size w wl) ∧ (w11.heap.size ≤ wl.heap.size)) (fun (s : Nat × Nat × List Nat) => match s with | (k, c, P) => m - k) (0, 0, []) ?_ ?_
 ·exact ⟨Off.refl _ _, (hF18 7).trans (rfl), (hF18 6).trans (rfl), Nat.zero_le _, rfl, Lm.nil, Nat.zero_le _, rfl, hx, hy, (by rw [fillN_nil]; exact hb14), hE, Nat.le_refl _⟩
 clear hx hy hE hb14
 rintro ⟨k, c, P⟩ f20 w21 ⟨G22, hs23, hs24, hk, hP, hLm, hc, hv, hx, hy, hb14, hE, hz19⟩
 refine wseq (wsr (mV hs23 (mV (v := (.slice (some ⟨b12, 0, none⟩) (m) (m))) ((G22 5 rfl).trans (hF18 5)) (rV (r_len uT40 rfl) (rV (r_lss (k := .i64) (a := (k : Int)) (b := (m : Int)) rfl rfl) (RL.nil ?_))))))
 refine wcD (p := (k : Int) < (m : Int)) rfl (fun hb25 hb25p => ?_) (fun hb25 hb25p => ?_)
 ·refine wskip ?_
  refine wseq ?_
  refine wblock ?_
  refine wset fun F26 hF27 => ?_
  refine wcut (fun fl wl => Off (6 :: (rg 21 11 [])) F26 fl ∧ fl 6 = (.int .u64 (((c + dig x k : Nat) : Int))) ∧ (Sg (gN .u32) (fun b T => Dx b T ∧ b < w.heap.size) wl vx x) ∧ (Sg (gN .u32) (fun b T => Dy b T ∧ b < w.heap.size) wl vy y) ∧ (Ar (gN .u32) wl b12 89 0 (fillN P m) m) ∧ (Below w.heap.size w wl) ∧ (w21.heap.size ≤ wl.heap.size)) ?_ ?_
  ·have G29 := Off.refl (6 :: (rg 21 11 [])) F26
   refine wsr (mV (v := (iv k)) ((hF27 7).trans hs23) (mV (v := vx) ((hF27 0).trans ((G22 0 rfl).trans ((hF18 0).trans (hF0 0)))) (rV (r_len uT40 hv3) (rV (r_lss (k := .i64) (a := (k : Int)) (b := ((x.length : Nat) : Int)) rfl rfl) (RL.nil ?_)))))
   refine wcD (p := (k : Int) < ((x.length : Nat) : Int)) rfl (fun hb30 hb30p => ?_) (fun hb30 hb30p => ?_)
   ·refine wregion ?_
    refine mV (v := (.int .u64 (c : Int))) ((hF27 6).trans hs24) (mV (v := vx) ((hF27 0).trans ((G22 0 rfl).trans ((hF18 0).trans (hF0 0)))) (mV (v := (iv k)) ((hF27 7).trans hs23) ?_))
    obtain ⟨b31, o32, c33, hv34, hc35⟩ := hx.ix (i := (k : Int)) (k) oM oM
    refine rV (r_indexAddr (i := (k : Int)) uT40 ty89 hv34 rfl oM oM) (rV (r_load (v := (.int .u32 (((x.getD (k) default : Nat) : Int)))) uT89 ag89 rfl hc35) (rV (r_conv (k := .u64) (a := ((x.getD (k) default : Nat) : Int)) (c := ((x.getD (k) default : Nat) : Int)) uT89 uT73 rfl (wu64 (by have := lmx.at (k := k) oM; omega))) (rV (r_add (k := .u64) (a := (c : Int)) (b := ((x.getD (k) default : Nat) : Int)) (c := (c : Int) + ((x.getD (k) default : Nat) : Int)) rfl rfl (wu64 (by have := lmx.at (k := k) oM; omega))) (aS (v := (.int .u64 ((c : Int) + ((x.getD (k) default : Nat) : Int)))) rfl (RL.nil ?_)))))
    refine ⟨?_, ?_, ?_, ?_, ?_, ?_, ?_⟩
    · exact (by repeat (first | exact G29 | refine Off.st ?_ dC _ | refine Off.via G22 dC ?_ | refine Off.eq hF18 ?_))
    · first | exact int_eq (by rw [dig_t (xs := x) oM]; omega) | exact int_eq (by rw [dig_f (xs := x) oM]; omega)
    · exact hx
    · exact hy
    · exact hb14
    · exact hE
    omega
   refine wskip ?_
   refine ⟨?_, ?_, ?_, ?_, ?_, ?_, ?_⟩
   · exact (by repeat (first | exact G29 | refine Off.st ?_ dC _ | refine Off.via G22 dC ?_ | refine Off.eq hF18 ?_))
   · refine (((hF27 6).trans hs24)).trans ?_
     first | exact int_eq (by rw [dig_t (xs := x) oM]; omega) | exact int_eq (by rw [dig_f (xs := x) oM]; omega)
   · exact hx
   · exact hy
   · exact hb14
   · exact hE
   omega
  clear hx hy hE hb14
  rintro f36 w37 ⟨G38, hs39, hx, hy, hb14, hE, hz28⟩
  refine wset fun F40 hF41 => ?_
  refine wcut (fun fl wl => Off (6 :: (rg 32 11 [])) F40 fl ∧ fl 6 = (.int .u64 (((c + dig x k + dig y k : Nat) : Int))) ∧ (Sg (gN .u32) (fun b T => Dx b T ∧ b < w.heap.size) wl vx x) ∧ (Sg (gN .u32) (fun b T => Dy b T ∧ b < w.heap.size) wl vy y) ∧ (Ar (gN .u32) wl b12 89 0 (fillN P m) m) ∧ (Below w.heap.size w wl) ∧ (w37.heap.size ≤ wl.heap.size)) ?_ ?_
  ·have G43 := Off.refl (6 :: (rg 32 11 [])) F40
   refine wsr (mV (v := (iv k)) ((hF41 7).trans ((G38 7 rfl).trans ((hF27 7).trans hs23))) (mV (v := vy) ((hF41 1).trans ((G38 1 rfl).trans ((hF27 1).trans ((G22 1 rfl).trans ((hF18 1).trans (hF0 1)))))) (rV (r_len uT40 hv8) (rV (r_lss (k := .i64) (a := (k : Int)) (b := ((y.length : Nat) : Int)) rfl rfl) (RL.nil ?_)))))
   refine wcD (p := (k : Int) < ((y.length : Nat) : Int)) rfl (fun hb44 hb44p => ?_) (fun hb44 hb44p => ?_)
   ·refine wregion ?_
    refine mV (v := (.int .u64 (((c + dig x k : Nat) : Int)))) ((hF41 6).trans hs39) (mV (v := vy) ((hF41 1).trans ((G38 1 rfl).trans ((hF27 1).trans ((G22 1 rfl).trans ((hF18 1).trans (hF0 1)))))) (mV (v := (iv k)) ((hF41 7).trans ((G38 7 rfl).trans ((hF27 7).trans hs23))) ?_))
    obtain ⟨b45, o46, c47, hv48, hc49⟩ := hy.ix (i := (k : Int)) (k) oM oM
    refine rV (r_indexAddr (i := (k : Int)) uT40 ty89 hv48 rfl oM oM) (rV (r_load (v := (.int .u32 (((y.getD (k) default : Nat) : Int)))) uT89 ag89 rfl hc49) (rV (r_conv (k := .u64) (a := ((y.getD (k) default : Nat) : Int)) (c := ((y.getD (k) default : Nat) : Int)) uT89 uT73 rfl (wu64 (by have := lmy.at (k := k) oM; omega))) (rV (r_add (k := .u64) (a := ((c + dig x k : Nat) : Int)) (b := ((y.getD (k) default : Nat) : Int)) (c := ((c + dig x k : Nat) : Int) + ((y.getD (k) default : Nat) : Int)) rfl rfl (wu64 (by have := lmy.at (k := k) oM; have := dig_lt lmx k; omega))) (aS (v := (.int .u64 (((c + dig x k : Nat) : Int) + ((y.getD (k) default : Nat) : Int)))) rfl (RL.nil ?_)))))
    refine ⟨?_, ?_, ?_, ?_, ?_, ?_, ?_⟩
    · exact (by repeat (first | exact G43 | refine Off.st ?_ dC _ | refine Off.via G38 dC ?_ | refine Off.eq hF27 ?_ | refine Off.via G22 dC ?_ | refine Off.eq hF18 ?_))
    · first | exact int_eq (by rw [dig_t (xs := y) oM]; omega) | exact int_eq (by rw [dig_f (xs := y) oM]; omega)
    · exact hx
    · exact hy
    · exact hb14
    · exact hE
    omega
   refine wskip ?_
   refine ⟨?_, ?_, ?_, ?_, ?_, ?_, ?_⟩
   · exact (by repeat (first | exact G43 | refine Off.st ?_ dC _ | refine Off.via G38 dC ?_ | refine Off.eq hF27 ?_ | refine Off.via G22 dC ?_ | refine Off.eq hF18 ?_))
   · refine (((hF41 6).trans hs39)).trans ?_
     first | exact int_eq (by rw [dig_t (xs := y) oM]; omega) | exact int_eq (by rw [dig_f (xs := y) oM]; omega)
   · exact hx
   · exact hy
   · exact hb14
   · exact hE
   omega
  clear hx hy hE hb14
  rintro f50 w51 ⟨G52, hs53, hx, hy, hb14, hE, hz42⟩
  refine wsr (mV (v := (.slice (some ⟨b12, 0, none⟩) (m) (m))) ((G52 5 rfl).trans ((hF41 5).trans ((G38 5 rfl).trans ((hF27 5).trans ((G22 5 rfl).trans (hF18 5)))))) (mV (v := (iv k)) ((G52 7 rfl).trans ((hF41 7).trans ((G38 7 rfl).trans ((hF27 7).trans hs23)))) (mV hs53 (rV (r_conv (k := .u32) (a := ((c + dig x k + dig y k : Nat) : Int)) (c := (((c + dig x k + dig y k) % 4294967296 : Nat) : Int)) uT73 uT89 rfl (cu32 _)) (rV (r_indexAddr (i := (k : Int)) uT40 ty89 rfl rfl oM oM) ?_)))))
  refine RL.runs rfl rfl (h_set (g := (gN .u32)) (vv := (.int .u32 ((((c + dig x k + dig y k) % 4294967296 : Nat) : Int)))) (u := (c + dig x k + dig y k) % 4294967296) (i := (k : Int)) ty89 rfl rfl rfl rfl rfl hb14 (k) oM oM) ?_
  rintro w54 ⟨ha55, hx56⟩
  have hx56z := hx56.size
  replace hx := hx.tr (hb14.sm hx56 (by (intro h; have := h.2; omega)))
  replace hy := hy.tr (hb14.sm hx56 (by (intro h; have := h.2; omega)))
  replace hE := Below.exc hE oM hx56 oM
  replace hb14 := ha55
  refine RL.nil (wregion (mV hs53 (rV (r_shr (k := .u64) (a := ((c + dig x k + dig y k : Nat) : Int)) (b := 32) (c := (((c + dig x k + dig y k) / 4294967296 : Nat) : Int)) rfl rfl dC (shr32 _)) (aS (v := (.int .u64 ((((c + dig x k + dig y k) / 4294967296 : Nat) : Int)))) rfl (RL.nil (wregion (mV (v := (iv k)) ((G52 7 rfl).trans ((hF41 7).trans ((G38 7 rfl).trans ((hF27 7).trans hs23)))) (rV (r_add (k := .i64) (a := (k : Int)) (b := 1) (c := (k : Int) + 1) rfl rfl (wi64 oM)) (aS (v := (iv ((k : Int) + 1))) rfl (RL.nil ?_))))))))))
  refine ⟨(k + 1, (c + dig x k + dig y k) / 4294967296, P ++ [(c + dig x k + dig y k) % 4294967296]), ⟨?_, ?_, ?_, ?_, ?_, ?_, ?_, ?_, ?_, ?_, ?_, ?_, ?_⟩, ?_⟩
  · exact (by repeat (first | exact G22 | refine Off.st ?_ dC _ | refine Off.via G52 dC ?_ | refine Off.eq hF41 ?_ | refine Off.via G38 dC ?_ | refine Off.eq hF27 ?_))
  · first | rfl | exact int_eq oM | exact bool_eq (by simp)
  · first | rfl | exact int_eq oM | exact bool_eq (by simp)
  · omega
  · rw [List.length_append, hP]; rfl
  · exact hLm.snoc (Nat.mod_lt _ dC)
  · have := dig_lt lmx k; have := dig_lt lmy k; omega
  · rw [val_take_dig, val_take_dig]; exact add_step hP hv
  · exact hx
  · exact hy
  · rw [fillN_set hP oM] at hb14; exact hb14
  · exact hE
  · omega
  (try dsimp only)
  omega
 refine wexit ?_
 refine wseq ?_
 have hkm : k = m := by omega
 rw [fillN_full oM] at hb14
 refine wregion (mV (v := (.slice (some ⟨b12, 0, none⟩) (m) (m))) ((G22 5 rfl).trans (hF18 5)) ?_)
 refine cL ent112 (r01_trim (hb14.sc (D := fun _ _ => True) (Nat.le_refl _) oM trivial) (by assumption) oS) rfl ?_
 rintro vr59 w57 ⟨hr60, he58⟩
 have he58z := he58.size
 replace hx := hx.tr (Sm.ext he58)
 replace hy := hy.tr (Sm.ext he58)
 replace hE := Below.ext hE oM he58
 replace hb14 := hb14.ext he58
 have hlt61 : (digs (val P)).length ≤ P.length := len_le_of (by assumption)
 refine aS (v := vr59) rfl (RL.nil ?_)
 refine wret ?_
 refine ⟨[vr59], ⟨rfl, trivial⟩, ?_⟩
 have hres := hr60
 rw [add_fin lmx lmy hP oM hv] at hres
 exact ⟨hres.mono (fun b T h => by first | exact ⟨by have := h.1; omega, h.2⟩ | exact ⟨by have := h.1; omega, h.2.1⟩ | exact ⟨by have := h.1; omega, h.2, by have := h.1; omega⟩ | exact ⟨by have := h.1; omega, h.2.1, by have := h.1; omega⟩ | exact ⟨by have := h.1; omega, h.2.1, h.2.2⟩), hE⟩
set_option maxHeartbeats 1000000 in
theorem r01_sub {w : World} {Dx : Nat → TypeId → Prop} {vx : Value} {x : List Nat} (hx : Sg (gN .u32) Dx w vx x) (lmx : Lm x) (lnx : x.length ≤ 1099511627776) {Dy : Nat → TypeId → Prop} {vy : Value} {y : List Nat} (hy : Sg (gN .u32) Dy w vy y) (lmy : Lm y) (lny : y.length ≤ 1099511627776) :
    Calls Tryz.prog 119 #[vx, vy] w fun e w' => ∃ v, e = .returned v ∧ (∃ vr, v = .tuple #[vr, .bool (decide (val y ≤ val x))] ∧ Sg (gN .u32) (fun b T => w.heap.size ≤ b ∧ T = 89) w' vr (digs (val x - val y))) ∧ Ext w w' := by
 have hE : Below w.heap.size w w := Below.refl _ _
 refine calls_of (n := 59) (rs := [.tmp 4, .tmp 5]) func119 rfl rfl rfl bL ?_
 refine wset fun F0 hF0 => ?_
 refine wsr (aS (v := (.slice none (0) (0))) rfl (aS (v := (.bool false)) rfl (RL.nil (wseq (wsr (mV (v := vx) (hF0 0) (mV (v := vy) (hF0 1) ?_)))))))
 refine cL ent131 (r01_compare hx (by assumption) oS hy (by assumption) oS) rfl ?_
 rintro _ w1 ⟨rfl, he2⟩
 have he2z := he2.size
 replace hx := hx.tr (Sm.ext he2)
 replace hy := hy.tr (Sm.ext he2)
 replace hE := Below.ext hE oM he2
 refine rV (r_lss (k := .i64) (a := cmpI ((val x : Nat) : Int) ((val y : Nat) : Int)) (b := 0) rfl rfl) (RL.nil ?_)
 refine wcD (p := (cmpI ((val x : Nat) : Int) ((val y : Nat) : Int)) < 0) rfl (fun hb3 hb3p => ?_) (fun hb3 hb3p => ?_)
 ·have hlt : val x < val y := by have := cmpI_neg.1 hb3p; omega
  refine wsr (aS (v := (.slice none (0) (0))) rfl (aS (v := (.bool false)) rfl (RL.nil ?_)))
  refine wret ?_
  refine ⟨[(.slice none (0) (0)), (.bool false)], ⟨rfl, ⟨rfl, trivial⟩⟩, ?_⟩
  exact ⟨⟨_, by rw [decide_eq_false oM]; rfl, by rw [show val x - val y = 0 by omega]; exact Sg.nil⟩, hE⟩
 have hge : val y ≤ val x := by rcases Nat.lt_or_ge (val x) (val y) with h | h; exact absurd (cmpI_neg.2 oM) hb3p; exact h
 refine wskip ?_
 refine wsr (mV (v := vx) (hF0 0) ?_)
 refine cL ent112 (r01_trim hx (by assumption) oS) rfl ?_
 rintro vr6 w4 ⟨hr7, he5⟩
 have he5z := he5.size
 replace hx := hx.tr (Sm.ext he5)
 replace hy := hy.tr (Sm.ext he5)
 replace hE := Below.ext hE oM he5
 have hlt8 : (digs (val x)).length ≤ x.length := len_le_of (by assumption)
 refine mV (v := vy) (hF0 1) ?_
 refine cL ent112 (r01_trim hy (by assumption) oS) rfl ?_
 rintro vr11 w9 ⟨hr12, he10⟩
 have he10z := he10.size
 replace hx := hx.tr (Sm.ext he10)
 replace hy := hy.tr (Sm.ext he10)
 replace hE := Below.ext hE oM he10
 replace hr7 := hr7.tr (Sm.ext he10)
 have hlt13 : (digs (val y)).length ≤ y.length := len_le_of (by assumption)
 refine aS (v := vr6) rfl (aS (v := vr11) rfl (RL.nil (wseq ?_)))
 have hlen : (digs (val y)).length ≤ (digs (val x)).length := len_mono hge
 replace hr7 := hr7.old
 replace hr12 := hr12.old
 refine wregion (mV (v := vr6) rfl ?_)
 obtain ⟨A14, c15, hv16, hc17, hc18⟩ := hr7.len
 refine rV (r_len uT40 hv16) ?_
 have hn24 : ((((digs (val x)).length : Nat) : Int) : Int) = (((digs (val x)).length : Nat) : Int) := by omega
 refine rU (h_make1 (n := (digs (val x)).length) uT40 ty89 rfl (int_eq hn24) (int_eq hn24) oM oM) ?_
 rintro _ w19 ⟨b20, rfl, hs23, hb22, he21⟩
 have he21z := he21.size
 replace hx := hx.tr (Sm.ext he21)
 replace hy := hy.tr (Sm.ext he21)
 replace hE := Below.ext hE oM he21
 replace hr7 := hr7.tr (Sm.ext he21)
 replace hr12 := hr12.tr (Sm.ext he21)
 replace hb22 := Ar.made (g := (gN .u32)) (z := (0 : Nat)) hb22 rfl
 have hb22l := hb22.lt
 refine aS (v := (.slice (some ⟨b20, 0, none⟩) ((digs (val x)).length) ((digs (val x)).length))) rfl (RL.nil (wsr (aS (v := (.int .u64 0)) rfl (RL.nil (wseq (wsr (aS (v := (iv 0)) rfl (RL.nil ?_))))))))
 refine wblock ?_
 refine wset fun F25 hF26 => ?_
 refine wloop (σ := Nat × Nat × List Nat) (fun (s : Nat × Nat × List Nat) fl wl => match s with | (k, c, P) => Off (rg 7 4 (rg 22 35 [])) F25 fl ∧ fl 8 = (iv k) ∧ fl 7 = (.int .u64 (c : Int)) ∧ (k ≤ (digs (val x)).length) ∧ (P.length = k) ∧ (Lm P) ∧ (c ≤ 1) ∧ (val P + val ((digs (val y)).take k) = val ((digs (val x)).take k) + 4294967296 ^ k * c) ∧ (Sg (gN .u32) (fun b T => (fun b T => w1.heap.size ≤ b ∧ T = 89) b T ∧ b < w9.heap.size) wl vr6 (digs (val x))) ∧ (Sg (gN .u32) (fun b T => (fun b T => w4.heap.size ≤ b ∧ T = 89) b T ∧ b < w9.heap.size) wl vr11 (digs (val y))) ∧ (Ar (gN .u32) wl b20 89 0 (fillN P (digs (val x)).length) ((digs (val x)).length)) ∧ (Below w.heap.size w wl) ∧ (w19.heap.size ≤ wl.heap.size)) (fun (s : Nat × Nat × List Nat) => match s with | (k, c, P) => (digs (val x)).length - k) (0, 0, []) ?_ ?_
 ·exact ⟨Off.refl _ _, (hF26 8).trans (rfl), (hF26 7).trans (rfl), Nat.zero_le _, rfl, Lm.nil, Nat.zero_le _, rfl, hr7, hr12, (by rw [fillN_nil]; exact hb22), hE, Nat.le_refl _⟩
 clear hx hy hE hr7 hr12 hb22
 rintro ⟨k, c, P⟩ f28 w29 ⟨G30, hs31, hs32, hk, hP, hLm, hc, hv, hr7, hr12, hb22, hE, hz27⟩
 refine wseq (wsr (mV hs31 (mV (v := vr6) ((G30 0 rfl).trans (hF26 0)) (rV (r_len uT40 hv16) (rV (r_lss (k := .i64) (a := (k : Int)) (b := (((digs (val x)).length : Nat) : Int)) rfl rfl) (RL.nil ?_))))))
 refine wcD (p := (k : Int) < (((digs (val x)).length : Nat) : Int)) rfl (fun hb33 hb33p => ?_) (fun hb33 hb33p => ?_)
 ·refine wskip ?_
  refine wseq ?_
  refine wblock ?_
  refine wsr (mV hs32 (aS (v := (.int .u64 (c : Int))) rfl (RL.nil ?_)))
  refine wset fun F34 hF35 => ?_
  refine wcut (fun fl wl => Off (9 :: (rg 29 11 [])) F34 fl ∧ fl 9 = (.int .u64 (((c + dig (digs (val y)) k : Nat) : Int))) ∧ (Sg (gN .u32) (fun b T => (fun b T => w1.heap.size ≤ b ∧ T = 89) b T ∧ b < w9.heap.size) wl vr6 (digs (val x))) ∧ (Sg (gN .u32) (fun b T => (fun b T => w4.heap.size ≤ b ∧ T = 89) b T ∧ b < w9.heap.size) wl vr11 (digs (val y))) ∧ (Ar (gN .u32) wl b20 89 0 (fillN P (digs (val x)).length) ((digs (val x)).length)) ∧ (Below w.heap.size w wl) ∧ (w29.heap.size ≤ wl.heap.size)) ?_ ?_
  ·have G37 := Off.refl (9 :: (rg 29 11 [])) F34
   refine wsr (mV (v := (iv k)) ((hF35 8).trans hs31) (mV (v := vr11) ((hF35 1).trans ((G30 1 rfl).trans (hF26 1))) ?_))
   obtain ⟨A38, c39, hv40, hc41, hc42⟩ := hr12.len
   refine rV (r_len uT40 hv40) (rV (r_lss (k := .i64) (a := (k : Int)) (b := (((digs (val y)).length : Nat) : Int)) rfl rfl) (RL.nil ?_))
   refine wcD (p := (k : Int) < (((digs (val y)).length : Nat) : Int)) rfl (fun hb43 hb43p => ?_) (fun hb43 hb43p => ?_)
   ·refine wregion ?_
    refine mV (v := (.int .u64 (c : Int))) (hF35 9) (mV (v := vr11) ((hF35 1).trans ((G30 1 rfl).trans (hF26 1))) (mV (v := (iv k)) ((hF35 8).trans hs31) ?_))
    obtain ⟨b44, o45, c46, hv47, hc48⟩ := hr12.ix (i := (k : Int)) (k) oM oM
    refine rV (r_indexAddr (i := (k : Int)) uT40 ty89 hv47 rfl oM oM) (rV (r_load (v := (.int .u32 ((((digs (val y)).getD (k) default : Nat) : Int)))) uT89 ag89 rfl hc48) (rV (r_conv (k := .u64) (a := (((digs (val y)).getD (k) default : Nat) : Int)) (c := (((digs (val y)).getD (k) default : Nat) : Int)) uT89 uT73 rfl (wu64 (by have := (digs_lm (val y)).at (k := k) oM; omega))) (rV (r_add (k := .u64) (a := (c : Int)) (b := (((digs (val y)).getD (k) default : Nat) : Int)) (c := (c : Int) + (((digs (val y)).getD (k) default : Nat) : Int)) rfl rfl (wu64 (by have := (digs_lm (val y)).at (k := k) oM; omega))) (aS (v := (.int .u64 ((c : Int) + (((digs (val y)).getD (k) default : Nat) : Int)))) rfl (RL.nil ?_)))))
    refine ⟨?_, ?_, ?_, ?_, ?_, ?_, ?_⟩
    · exact (by repeat (first | exact G37 | refine Off.st ?_ dC _ | refine Off.via G30 dC ?_ | refine Off.eq hF26 ?_))
    · first | exact int_eq (by rw [dig_t (xs := digs (val y)) oM]; omega) | exact int_eq (by rw [dig_f (xs := digs (val y)) oM]; omega)
    · exact hr7
    · exact hr12
    · exact hb22
    · exact hE
    omega
   refine wskip ?_
   refine ⟨?_, ?_, ?_, ?_, ?_, ?_, ?_⟩
   · exact (by repeat (first | exact G37 | refine Off.st ?_ dC _ | refine Off.via G30 dC ?_ | refine Off.eq hF26 ?_))
   · refine ((hF35 9)).trans ?_
     first | exact int_eq (by rw [dig_t (xs := digs (val y)) oM]; omega) | exact int_eq (by rw [dig_f (xs := digs (val y)) oM]; omega)
   · exact hr7
   · exact hr12
   · exact hb22
   · exact hE
   omega
  clear hE hr7 hr12 hb22
  rintro f49 w50 ⟨G51, hs52, hr7, hr12, hb22, hE, hz36⟩
  refine wseq ?_
  have hxk := (digs_lm (val x)).at (k := k) oM
  have hyk := dig_lt (digs_lm (val y)) k
  refine wregion (mV (v := vr6) ((G51 0 rfl).trans ((hF35 0).trans ((G30 0 rfl).trans (hF26 0)))) (mV (v := (iv k)) ((G51 8 rfl).trans ((hF35 8).trans hs31)) ?_))
  obtain ⟨b53, o54, c55, hv56, hc57⟩ := hr7.ix (i := (k : Int)) (k) oM oM
  refine rV (r_indexAddr (i := (k : Int)) uT40 ty89 hv56 rfl oM oM) (rV (r_load (v := (.int .u32 ((((digs (val x)).getD (k) default : Nat) : Int)))) uT89 ag89 rfl hc57) (rV (r_conv (k := .u64) (a := (((digs (val x)).getD (k) default : Nat) : Int)) (c := (((digs (val x)).getD (k) default : Nat) : Int)) uT89 uT73 rfl (wu64 oM)) (aS (v := (.int .u64 ((((digs (val x)).getD (k) default : Nat) : Int)))) rfl (RL.nil (wsr (aS (v := (.int .u64 0)) rfl (RL.nil ?_)))))))
  refine wset fun F58 hF59 => ?_
  refine wcut (fun fl wl => Off (7 :: (10 :: (rg 45 5 []))) F58 fl ∧ fl 10 = (.int .u64 (((if (digs (val x)).getD k default < c + dig (digs (val y)) k then (digs (val x)).getD k default + 4294967296 else (digs (val x)).getD k default : Nat) : Int))) ∧ fl 7 = (.int .u64 (((if (digs (val x)).getD k default < c + dig (digs (val y)) k then 1 else 0 : Nat) : Int))) ∧ (Sg (gN .u32) (fun b T => (fun b T => w1.heap.size ≤ b ∧ T = 89) b T ∧ b < w9.heap.size) wl vr6 (digs (val x))) ∧ (Sg (gN .u32) (fun b T => (fun b T => w4.heap.size ≤ b ∧ T = 89) b T ∧ b < w9.heap.size) wl vr11 (digs (val y))) ∧ (Ar (gN .u32) wl b20 89 0 (fillN P (digs (val x)).length) ((digs (val x)).length)) ∧ (Below w.heap.size w wl) ∧ (w50.heap.size ≤ wl.heap.size)) ?_ ?_
  ·have G61 := Off.refl (7 :: (10 :: (rg 45 5 []))) F58
   refine wsr (mV (v := (.int .u64 ((((digs (val x)).getD (k) default : Nat) : Int)))) (hF59 10) (mV (v := (.int .u64 (((c + dig (digs (val y)) k : Nat) : Int)))) ((hF59 9).trans hs52) (rV (r_lss (k := .u64) (a := (((digs (val x)).getD (k) default : Nat) : Int)) (b := ((c + dig (digs (val y)) k : Nat) : Int)) rfl rfl) (RL.nil ?_))))
   refine wcD (p := (((digs (val x)).getD (k) default : Nat) : Int) < ((c + dig (digs (val y)) k : Nat) : Int)) rfl (fun hb62 hb62p => ?_) (fun hb62 hb62p => ?_)
   ·refine wsr ?_
    refine mV (v := (.int .u64 ((((digs (val x)).getD (k) default : Nat) : Int)))) (hF59 10) (rV (r_add (k := .u64) (a := (((digs (val x)).getD (k) default : Nat) : Int)) (b := 4294967296) (c := (((digs (val x)).getD (k) default : Nat) : Int) + 4294967296) rfl rfl (wu64 oM)) (aS (v := (.int .u64 ((((digs (val x)).getD (k) default : Nat) : Int) + 4294967296))) rfl (RL.nil (wregion (aS (v := (.int .u64 1)) rfl (RL.nil ?_))))))
    refine ⟨?_, ?_, ?_, ?_, ?_, ?_, ?_, ?_⟩
    · exact (by repeat (first | exact G61 | refine Off.st ?_ dC _ | refine Off.via G51 dC ?_ | refine Off.eq hF35 ?_ | refine Off.via G30 dC ?_ | refine Off.eq hF26 ?_))
    · exact int_eq (by split <;> omega)
    · exact int_eq (by split <;> omega)
    · exact hr7
    · exact hr12
    · exact hb22
    · exact hE
    omega
   refine wskip ?_
   refine ⟨?_, ?_, ?_, ?_, ?_, ?_, ?_, ?_⟩
   · exact (by repeat (first | exact G61 | refine Off.st ?_ dC _ | refine Off.via G51 dC ?_ | refine Off.eq hF35 ?_ | refine Off.via G30 dC ?_ | refine Off.eq hF26 ?_))
   · refine ((hF59 10)).trans ?_
     exact int_eq (by split <;> omega)
   · refine ((hF59 7)).trans ?_
     exact int_eq (by split <;> omega)
   · exact hr7
   · exact hr12
   · exact hb22
   · exact hE
   omega
  clear hE hr7 hr12 hb22
  rintro f63 w64 ⟨G65, hs66, hs67, hr7, hr12, hb22, hE, hz60⟩
  refine wregion (mV (v := (.slice (some ⟨b20, 0, none⟩) ((digs (val x)).length) ((digs (val x)).length))) ((G65 6 rfl).trans ((hF59 6).trans ((G51 6 rfl).trans ((hF35 6).trans ((G30 6 rfl).trans (hF26 6)))))) (mV (v := (iv k)) ((G65 8 rfl).trans ((hF59 8).trans ((G51 8 rfl).trans ((hF35 8).trans hs31)))) (mV (v := (.int .u64 (((if (digs (val x)).getD k default < c + dig (digs (val y)) k then (digs (val x)).getD k default + 4294967296 else (digs (val x)).getD k default : Nat) : Int)))) hs66 (mV (v := (.int .u64 (((c + dig (digs (val y)) k : Nat) : Int)))) ((G65 9 rfl).trans ((hF59 9).trans hs52)) (rV (r_sub (k := .u64) (a := ((if (digs (val x)).getD k default < c + dig (digs (val y)) k then (digs (val x)).getD k default + 4294967296 else (digs (val x)).getD k default : Nat) : Int)) (b := ((c + dig (digs (val y)) k : Nat) : Int)) (c := (((if (digs (val x)).getD k default < c + dig (digs (val y)) k then (digs (val x)).getD k default + 4294967296 else (digs (val x)).getD k default) - (c + dig (digs (val y)) k) : Nat) : Int)) rfl rfl ((wu64 (by split <;> omega)).trans (by split <;> omega))) (rV (r_conv (k := .u32) (a := (((if (digs (val x)).getD k default < c + dig (digs (val y)) k then (digs (val x)).getD k default + 4294967296 else (digs (val x)).getD k default) - (c + dig (digs (val y)) k) : Nat) : Int)) (c := ((((if (digs (val x)).getD k default < c + dig (digs (val y)) k then (digs (val x)).getD k default + 4294967296 else (digs (val x)).getD k default) - (c + dig (digs (val y)) k)) % 4294967296 : Nat) : Int)) uT73 uT89 rfl (cu32 _)) (rV (r_indexAddr (i := (k : Int)) uT40 ty89 rfl rfl oM oM) ?_)))))))
  refine RL.runs rfl rfl (h_set (g := (gN .u32)) (vv := (.int .u32 (((((if (digs (val x)).getD k default < c + dig (digs (val y)) k then (digs (val x)).getD k default + 4294967296 else (digs (val x)).getD k default) - (c + dig (digs (val y)) k)) % 4294967296 : Nat) : Int)))) (u := ((digs (val x)).getD k default + 4294967296 - (c + dig (digs (val y)) k)) % 4294967296) (i := (k : Int)) ty89 rfl rfl (int_eq (by split <;> omega)) rfl rfl hb22 (k) oM oM) ?_
  rintro w68 ⟨ha69, hx70⟩
  have hx70z := hx70.size
  replace hE := Below.exc hE oM hx70 oM
  replace hr7 := hr7.tr (hb22.sm hx70 (by (intro h; have := h.2; omega)))
  replace hr12 := hr12.tr (hb22.sm hx70 (by (intro h; have := h.2; omega)))
  replace hb22 := ha69
  refine RL.nil (wregion (mV (v := (iv k)) ((G65 8 rfl).trans ((hF59 8).trans ((G51 8 rfl).trans ((hF35 8).trans hs31)))) (rV (r_add (k := .i64) (a := (k : Int)) (b := 1) (c := (k : Int) + 1) rfl rfl (wi64 oM)) (aS (v := (iv ((k : Int) + 1))) rfl (RL.nil ?_)))))
  refine ⟨(k + 1, (if (digs (val x)).getD k default < c + dig (digs (val y)) k then 1 else 0), P ++ [((digs (val x)).getD k default + 4294967296 - (c + dig (digs (val y)) k)) % 4294967296]), ⟨?_, ?_, ?_, ?_, ?_, ?_, ?_, ?_, ?_, ?_, ?_, ?_, ?_⟩, ?_⟩
  · exact (by repeat (first | exact G30 | refine Off.st ?_ dC _ | refine Off.via G65 dC ?_ | refine Off.eq hF59 ?_ | refine Off.via G51 dC ?_ | refine Off.eq hF35 ?_))
  · first | rfl | exact int_eq oM | exact bool_eq (by simp)
  · refine (hs67).trans ?_
    exact int_eq (by split <;> rfl)
  · omega
  · rw [List.length_append, hP]; rfl
  · exact hLm.snoc (Nat.mod_lt _ dC)
  · split <;> omega
  · rw [val_take_dig, val_take_succ (xs := digs (val x)) oM]; exact sub_step hP hv hxk hyk hc
  · exact hr7
  · exact hr12
  · rw [fillN_set hP oM] at hb22; exact hb22
  · exact hE
  · omega
  (try dsimp only)
  omega
 refine wexit ?_
 refine wseq ?_
 have hkm : k = (digs (val x)).length := by omega
 rw [fillN_full oM] at hb22
 refine wregion (mV (v := (.slice (some ⟨b20, 0, none⟩) ((digs (val x)).length) ((digs (val x)).length))) ((G30 6 rfl).trans (hF26 6)) ?_)
 refine cL ent112 (r01_trim (hb22.sc (D := fun _ _ => True) (Nat.le_refl _) oM trivial) (by assumption) oS) rfl ?_
 rintro vr73 w71 ⟨hr74, he72⟩
 have he72z := he72.size
 replace hE := Below.ext hE oM he72
 replace hr7 := hr7.tr (Sm.ext he72)
 replace hr12 := hr12.tr (Sm.ext he72)
 replace hb22 := hb22.ext he72
 have hlt75 : (digs (val P)).length ≤ P.length := len_le_of (by assumption)
 refine aS (v := vr73) rfl (aS (v := (.bool true)) rfl (RL.nil ?_))
 refine wret ?_
 refine ⟨[vr73, (.bool true)], ⟨rfl, ⟨rfl, trivial⟩⟩, ?_⟩
 have hres := hr74
 have hf := sub_fin hLm hP oM oM (by rw [val_digs, val_digs]; exact hge) hv
 rw [val_digs, val_digs] at hf
 rw [hf] at hres
 exact ⟨⟨_, by rw [decide_eq_true hge]; rfl, hres.mono (fun b T h => by first | exact ⟨by have := h.1; omega, h.2⟩ | exact ⟨by have := h.1; omega, h.2.1⟩ | exact ⟨by have := h.1; omega, h.2, by have := h.1; omega⟩ | exact ⟨by have := h.1; omega, h.2.1, by have := h.1; omega⟩ | exact ⟨by have := h.1; omega, h.2.1, h.2.2⟩)⟩, hE⟩
end Go.Proofs.YtelbjmhhbeijkaaGreat
namespace Go.Proofs.YtelbjmhhbeijkaaGreat
open Go.Vg Go.RowKit _root_.Go.Proofs.Tryz
set_option linter.unusedVariables false
open Go.Vm
set_option maxHeartbeats 1000000 in
theorem r01_bits {w : World} {Dx : Nat → TypeId → Prop} {vx : Value} {x : List Nat} (hx : Sg (gN .u32) Dx w vx x) (lmx : Lm x) (lnx : x.length ≤ 1099511627776) :
    Calls Tryz.prog 124 #[vx] w fun e w' => ∃ v, e = .returned v ∧ (∃ t : Nat, v = .int .i64 (t : Int) ∧ val x < 2 ^ t ∧ t ≤ 32 * x.length) ∧ Ext w w' := by
 have hE : Below w.heap.size w w := Below.refl _ _
 refine calls_of (n := 27) (rs := [.tmp 2]) func124 rfl rfl rfl bL ?_
 refine wset fun F0 hF0 => ?_
 refine wsr (aS (v := (iv 0)) rfl (RL.nil (wsr (mV (v := vx) (hF0 0) ?_))))
 refine cL ent112 (r01_trim hx (by assumption) oS) rfl ?_
 rintro vr3 w1 ⟨hr4, he2⟩
 have he2z := he2.size
 replace hx := hx.tr (Sm.ext he2)
 replace hE := Below.ext hE oM he2
 have hlt5 : (digs (val x)).length ≤ x.length := len_le_of (by assumption)
 refine aS (v := vr3) rfl (RL.nil (wseq (wsr (mV (v := vr3) rfl ?_))))
 obtain ⟨A6, c7, hv8, hc9, hc10⟩ := hr4.len
 refine rV (r_len uT40 hv8) (rV (r_eql (k := .i64) (a := (((digs (val x)).length : Nat) : Int)) (b := 0) rfl rfl) (RL.nil ?_))
 refine wcD (p := (((digs (val x)).length : Nat) : Int) = 0) rfl (fun hb11 hb11p => ?_) (fun hb11 hb11p => ?_)
 ·refine wsr ?_
  refine aS (v := (iv 0)) rfl (RL.nil ?_)
  refine wret ?_
  refine ⟨[(iv 0)], ⟨rfl, trivial⟩, ?_⟩
  have h0 : val x = 0 := len_zero.1 (by unfold len; omega)
  exact ⟨⟨0, rfl, by omega, by omega⟩, hE⟩
 refine wskip ?_
 refine wsr (mV (v := vr3) rfl (rV (r_len uT40 hv8) (rV (r_sub (k := .i64) (a := (((digs (val x)).length : Nat) : Int)) (b := 1) (c := (((digs (val x)).length : Nat) : Int) - 1) rfl rfl (wi64 oM)) (rV (r_mul (k := .i64) (a := 32) (b := (((digs (val x)).length : Nat) : Int) - 1) (c := 32 * ((((digs (val x)).length : Nat) : Int) - 1)) rfl rfl (wi64 oM)) (aS (v := (iv (32 * ((((digs (val x)).length : Nat) : Int) - 1)))) rfl (RL.nil (wseq (wseq ?_))))))))
 have htop := (digs_lm (val x)).at (k := (digs (val x)).length - 1) oM
 refine wregion (mV (v := vr3) rfl (mV (v := vr3) rfl (rV (r_len uT40 hv8) (rV (r_sub (k := .i64) (a := (((digs (val x)).length : Nat) : Int)) (b := 1) (c := (((digs (val x)).length : Nat) : Int) - 1) rfl rfl (wi64 oM)) ?_))))
 obtain ⟨b12, o13, c14, hv15, hc16⟩ := hr4.ix (i := (((digs (val x)).length : Nat) : Int) - 1) ((digs (val x)).length - 1) oM oM
 refine rV (r_indexAddr (i := (((digs (val x)).length : Nat) : Int) - 1) uT40 ty89 hv15 rfl oM oM) (rV (r_load (v := (.int .u32 ((((digs (val x)).getD ((digs (val x)).length - 1) default : Nat) : Int)))) uT89 ag89 rfl hc16) (aS (v := (.int .u32 ((((digs (val x)).getD ((digs (val x)).length - 1) default : Nat) : Int)))) rfl (RL.nil ?_)))
 refine wblock ?_
 refine wset fun F17 hF18 => ?_
 refine wloop (σ := Nat) (fun (s : Nat) fl wl => Off (rg 3 2 (rg 20 6 [])) F17 fl ∧ fl 3 = (iv (32 * ((digs (val x)).length - 1) + s : Nat)) ∧ fl 4 = (.int .u32 ((((digs (val x)).getD ((digs (val x)).length - 1) default / 2 ^ s : Nat) : Int))) ∧ (s ≤ 32) ∧ (Sg (gN .u32) (fun b T => w.heap.size ≤ b ∧ T = 89) wl vr3 (digs (val x))) ∧ (Below w.heap.size w wl) ∧ (w1.heap.size ≤ wl.heap.size)) (fun (s : Nat) => 32 - s) (0) ?_ ?_
 ·exact ⟨Off.refl _ _, (hF18 3).trans ((int_eq oM)), (hF18 4).trans ((int_eq (by rw [Nat.pow_zero, Nat.div_one]))), Nat.zero_le _, hr4, hE, Nat.le_refl _⟩
 clear hx hE hr4
 rintro s f20 w21 ⟨G22, hs23, hs24, hs, hr4, hE, hz19⟩
 refine wseq (wsr (mV (v := (.int .u32 ((((digs (val x)).getD ((digs (val x)).length - 1) default / 2 ^ s : Nat) : Int)))) hs24 (rV (r_gtr (k := .u32) (a := (((digs (val x)).getD ((digs (val x)).length - 1) default / 2 ^ s : Nat) : Int)) (b := 0) rfl rfl) (RL.nil ?_))))
 refine wcD (p := 0 < (((digs (val x)).getD ((digs (val x)).length - 1) default / 2 ^ s : Nat) : Int)) rfl (fun hb25 hb25p => ?_) (fun hb25 hb25p => ?_)
 ·have hpos := hb25p
  refine wskip ?_
  refine wseq ?_
  refine wblock ?_
  have hs32 : s < 32 := by
    rcases Nat.lt_or_ge s 32 with h | h
    · exact h
    exfalso; rw [show s = 32 by omega, Nat.div_eq_of_lt (show (digs (val x)).getD ((digs (val x)).length - 1) default < 2 ^ 32 from htop)] at hpos; omega
  refine wregion (mV hs23 (rV (r_add (k := .i64) (a := ((32 * ((digs (val x)).length - 1) + s : Nat) : Int)) (b := 1) (c := ((32 * ((digs (val x)).length - 1) + s : Nat) : Int) + 1) rfl rfl (wi64 oM)) (aS (v := (iv (((32 * ((digs (val x)).length - 1) + s : Nat) : Int) + 1))) rfl (RL.nil (wregion (mV (v := (.int .u32 ((((digs (val x)).getD ((digs (val x)).length - 1) default / 2 ^ s : Nat) : Int)))) hs24 (rV (r_shr (k := .u32) (a := (((digs (val x)).getD ((digs (val x)).length - 1) default / 2 ^ s : Nat) : Int)) (b := 1) (c := (((digs (val x)).getD ((digs (val x)).length - 1) default / 2 ^ s / 2 : Nat) : Int)) rfl rfl dC (shr1u32 _)) (aS (v := (.int .u32 ((((digs (val x)).getD ((digs (val x)).length - 1) default / 2 ^ s / 2 : Nat) : Int)))) rfl (RL.nil ?_)))))))))
  refine ⟨(s + 1), ⟨?_, ?_, ?_, ?_, ?_, ?_, ?_⟩, ?_⟩
  · exact (by repeat (first | exact G22 | refine Off.st ?_ dC _))
  · first | rfl | exact int_eq oM | exact bool_eq (by simp)
  · exact int_eq (by rw [Nat.pow_succ, ← Nat.div_div_eq_div_mul])
  · omega
  · exact hr4
  · exact hE
  · omega
  (try dsimp only)
  omega
 have hzero : (digs (val x)).getD ((digs (val x)).length - 1) default / 2 ^ s = 0 := by
   rcases Nat.eq_zero_or_pos ((digs (val x)).getD ((digs (val x)).length - 1) default / 2 ^ s) with h | h
   · exact h
   exact absurd (Int.natCast_pos.2 h) hb25p
 refine wexit ?_
 refine wsr (mV hs23 (aS (v := (iv (32 * ((digs (val x)).length - 1) + s : Nat))) rfl (RL.nil ?_)))
 refine wret ?_
 refine ⟨[(iv (32 * ((digs (val x)).length - 1) + s : Nat))], ⟨rfl, trivial⟩, ?_⟩
 have hlaw := bits_law (digs_lm (val x)) oM hzero
 rw [val_digs] at hlaw
 exact ⟨⟨_, rfl, hlaw, by omega⟩, hE⟩
set_option maxHeartbeats 1000000 in
theorem r01_bit {w : World} {Dx : Nat → TypeId → Prop} {vx : Value} {x : List Nat} (hx : Sg (gN .u32) Dx w vx x) (lmx : Lm x) (lnx : x.length ≤ 1099511627776) {i : Nat} (hi : i ≤ 70368744177664) :
    Calls Tryz.prog 125 #[vx, (iv i)] w fun e w' => ∃ v, e = .returned v ∧ v = .int .u32 ((val x / 2 ^ i % 2 : Nat) : Int) ∧ Ext w w' := by
 have hE : Below w.heap.size w w := Below.refl _ _
 refine calls_of (n := 20) (rs := [.tmp 4]) func125 rfl rfl rfl bL ?_
 refine wset fun F0 hF0 => ?_
 refine wsr (aS (v := (.int .u32 0)) rfl (RL.nil (wseq (wsr (mV (v := (iv i)) (hF0 1) (rV (r_quo (k := .i64) (a := (i : Int)) (b := 32) (c := ((i / 32 : Nat) : Int)) rfl rfl dC (quo32 oM)) (mV (v := vx) (hF0 0) ?_)))))))
 obtain ⟨A1, c2, hv3, hc4, hc5⟩ := hx.len
 refine rV (r_len uT40 hv3) (rV (r_geq (k := .i64) (a := ((i / 32 : Nat) : Int)) (b := ((x.length : Nat) : Int)) rfl rfl) (RL.nil ?_))
 refine wcD (p := ((x.length : Nat) : Int) ≤ ((i / 32 : Nat) : Int)) rfl (fun hb6 hb6p => ?_) (fun hb6 hb6p => ?_)
 ·refine wsr ?_
  refine aS (v := (.int .u32 0)) rfl (RL.nil ?_)
  refine wret ?_
  refine ⟨[(.int .u32 0)], ⟨rfl, trivial⟩, ?_⟩
  exact ⟨int_eq (by rw [← bit_law lmx, dig_f oM, Nat.zero_div]; rfl), hE⟩
 refine wskip ?_
 refine wseq ?_
 have hxi := lmx.at (k := i / 32) oM
 refine wregion (mV (v := vx) (hF0 0) (mV (v := (iv i)) (hF0 1) (rV (r_quo (k := .i64) (a := (i : Int)) (b := 32) (c := ((i / 32 : Nat) : Int)) rfl rfl dC (quo32 oM)) ?_)))
 obtain ⟨b7, o8, c9, hv10, hc11⟩ := hx.ix (i := ((i / 32 : Nat) : Int)) (i / 32) oM oM
 refine rV (r_indexAddr (i := ((i / 32 : Nat) : Int)) uT40 ty89 hv10 rfl oM oM) (rV (r_load (v := (.int .u32 (((x.getD (i / 32) default : Nat) : Int)))) uT89 ag89 rfl hc11) (mV (v := (iv i)) (hF0 1) (rV (r_rem (k := .i64) (a := (i : Int)) (b := 32) (c := ((i % 32 : Nat) : Int)) rfl rfl dC (rem32 _)) (rV (r_conv (k := .u64) (a := ((i % 32 : Nat) : Int)) (c := ((i % 32 : Nat) : Int)) uT3 uT77 rfl (wu64 oM)) (rV (r_shr (k := .u32) (a := ((x.getD (i / 32) default : Nat) : Int)) (b := ((i % 32 : Nat) : Int)) (c := ((x.getD (i / 32) default / 2 ^ (i % 32) : Nat) : Int)) rfl rfl oM (shrN32 oM)) (rV (r_and (k := .u32) (a := ((x.getD (i / 32) default / 2 ^ (i % 32) : Nat) : Int)) (b := 1) (c := ((x.getD (i / 32) default / 2 ^ (i % 32) % 2 : Nat) : Int)) rfl rfl (and1 (Nat.lt_of_le_of_lt (Nat.div_le_self _ _) hxi))) (aS (v := (.int .u32 (((x.getD (i / 32) default / 2 ^ (i % 32) % 2 : Nat) : Int)))) rfl (RL.nil ?_))))))))
 refine wret ?_
 refine ⟨[(.int .u32 (((x.getD (i / 32) default / 2 ^ (i % 32) % 2 : Nat) : Int)))], ⟨rfl, trivial⟩, ?_⟩
 exact ⟨int_eq (by rw [← bit_law lmx, dig_t oM]), hE⟩
end Go.Proofs.YtelbjmhhbeijkaaGreat
namespace Go.Proofs.YtelbjmhhbeijkaaGreat
open Go.Vg Go.RowKit _root_.Go.Proofs.Tryz
set_option linter.unusedVariables false
open Go.Vm
set_option maxHeartbeats 4000000 in
theorem r01_divmod {w : World} {Dx : Nat → TypeId → Prop} {vx : Value} {x : List Nat} (hx0 : Sg (gN .u32) Dx w vx x) (lmx : Lm x) (lnx : x.length ≤ 549755813888) {Dy : Nat → TypeId → Prop} {vy : Value} {y : List Nat} (hy0 : Sg (gN .u32) Dy w vy y) (lmy : Lm y) (lny : y.length ≤ 549755813888) :
    Calls Tryz.prog 109 #[vx, vy] w fun e w' => ∃ v, e = .returned v ∧ (∃ vq vr, v = .tuple #[vq, vr, .bool (decide (val y ≠ 0))] ∧ Sg (gN .u32) (fun b T => w.heap.size ≤ b ∧ T = 89) w' vq (digs (val x / val y)) ∧ Sg (gN .u32) (fun b T => w.heap.size ≤ b ∧ T = 89) w' vr (digs (modZ (val x) (val y)))) ∧ Ext w w' := by
 have hE : Below w.heap.size w w := Below.refl _ _
 have hx := hx0.old
 clear hx0
 have hy := hy0.old
 clear hy0
 refine calls_of (n := 84) (rs := [.tmp 4, .tmp 5, .tmp 6]) func109 rfl rfl rfl bL ?_
 refine wset fun F0 hF0 => ?_
 refine wsr (aS (v := (.slice none (0) (0))) rfl (aS (v := (.slice none (0) (0))) rfl (aS (v := (.bool false)) rfl (RL.nil (wsr (mV (v := vy) (hF0 1) ?_))))))
 refine cL ent112 (r01_trim hy (by assumption) oS) rfl ?_
 rintro vr3 w1 ⟨hr4, he2⟩
 have he2z := he2.size
 replace hx := hx.tr (Sm.ext he2)
 replace hy := hy.tr (Sm.ext he2)
 replace hE := Below.ext hE oM he2
 have hlt5 : (digs (val y)).length ≤ y.length := len_le_of (by assumption)
 refine aS (v := vr3) rfl (RL.nil (wseq (wsr (mV (v := vr3) rfl ?_))))
 obtain ⟨A6, c7, hv8, hc9, hc10⟩ := hr4.len
 refine rV (r_len uT40 hv8) (rV (r_eql (k := .i64) (a := (((digs (val y)).length : Nat) : Int)) (b := 0) rfl rfl) (RL.nil ?_))
 refine wcD (p := (((digs (val y)).length : Nat) : Int) = 0) rfl (fun hb11 hb11p => ?_) (fun hb11 hb11p => ?_)
 ·have hy0 : val y = 0 := len_zero.1 (by unfold len; omega)
  refine wsr (aS (v := (.slice none (0) (0))) rfl (aS (v := (.slice none (0) (0))) rfl (aS (v := (.bool false)) rfl (RL.nil ?_))))
  refine wret ?_
  refine ⟨[(.slice none (0) (0)), (.slice none (0) (0)), (.bool false)], ⟨rfl, ⟨rfl, ⟨rfl, trivial⟩⟩⟩, ?_⟩
  exact ⟨⟨_, _, by rw [decide_eq_false oM]; rfl, by rw [hy0, Nat.div_zero]; exact Sg.nil, by rw [hy0]; exact Sg.nil⟩, hE⟩
 have hy0 : val y ≠ 0 := fun h => by have := len_zero.2 h; unfold len at this; omega
 refine wskip ?_
 refine wsr (mV (v := vx) (hF0 0) ?_)
 refine cL ent123 (r01_uint hx (by assumption) oS) rfl ?_
 rintro vq14 w12 ⟨hq15, he13⟩
 have he13z := he13.size
 subst hq15
 replace hx := hx.tr (Sm.ext he13)
 replace hy := hy.tr (Sm.ext he13)
 replace hE := Below.ext hE oM he13
 replace hr4 := hr4.tr (Sm.ext he13)
 refine mV (v := (.tuple #[(.int .u64 (((if (val x) < 18446744073709551616 then (val x) else 0 : Nat) : Int))), (bd ((val x) < 18446744073709551616))])) rfl (rV (r_extract (v := (.int .u64 (((if (val x) < 18446744073709551616 then (val x) else 0 : Nat) : Int)))) rfl rfl) (rV (r_extract (v := (bd ((val x) < 18446744073709551616))) rfl rfl) (aS (v := (.int .u64 (((if (val x) < 18446744073709551616 then (val x) else 0 : Nat) : Int)))) rfl (aS (v := (bd ((val x) < 18446744073709551616))) rfl (RL.nil (wseq (wsr (mV (v := vr3) rfl ?_))))))))
 refine cL ent123 (r01_uint hr4 (digs_lm _) oS) rfl ?_
 rintro vq18 w16 ⟨hq19, he17⟩
 have he17z := he17.size
 simp only [val_digs] at hq19
 subst hq19
 replace hx := hx.tr (Sm.ext he17)
 replace hy := hy.tr (Sm.ext he17)
 replace hE := Below.ext hE oM he17
 replace hr4 := hr4.tr (Sm.ext he17)
 refine mV (v := (.tuple #[(.int .u64 (((if (val y) < 18446744073709551616 then (val y) else 0 : Nat) : Int))), (bd ((val y) < 18446744073709551616))])) rfl (rV (r_extract (v := (.int .u64 (((if (val y) < 18446744073709551616 then (val y) else 0 : Nat) : Int)))) rfl rfl) (rV (r_extract (v := (bd ((val y) < 18446744073709551616))) rfl rfl) (aS (v := (.int .u64 (((if (val y) < 18446744073709551616 then (val y) else 0 : Nat) : Int)))) rfl (aS (v := (bd ((val y) < 18446744073709551616))) rfl (RL.nil (wsr (mV (v := (bd ((val x) < 18446744073709551616))) rfl (mV (v := (bd ((val x) < 18446744073709551616))) rfl ?_))))))))
 rcases bD ((val x) < 18446744073709551616) with ⟨hb20, hb20p⟩ | ⟨hb20, hb20p⟩
 ·have hx64 : val x < 18446744073709551616 := hb20p
  refine RL.gval rfl rfl (bool_eq hb20) rfl dC (r_move_as (v := (bd ((val y) < 18446744073709551616))) rfl) ?_
  refine rV (r_pick_t (v := (bd ((val y) < 18446744073709551616))) (bool_eq hb20) rfl) (RL.nil ?_)
  refine wcD (p := (val y) < 18446744073709551616) rfl (fun hb21 hb21p => ?_) (fun hb21 hb21p => ?_)
  ·have hy64 : val y < 18446744073709551616 := hb21p
   refine wseq ?_
   have hdq := Nat.div_le_self (val x) (val y)
   have hdm := Nat.mod_le (val x) (val y)
   refine wdraw mixed fun w22 he23 => ?_
   have he23z := he23.size
   replace hx := hx.tr (Sm.ext he23)
   replace hy := hy.tr (Sm.ext he23)
   replace hE := Below.ext hE oM he23
   replace hr4 := hr4.tr (Sm.ext he23)
   refine aM 0 rfl (v := (.int .u64 (((if (val x) < 18446744073709551616 then (val x) else 0 : Nat) : Int)))) rfl ?_
   refine aM 1 rfl (v := (.int .u64 (((if (val y) < 18446744073709551616 then (val y) else 0 : Nat) : Int)))) rfl ?_
   refine ra 2 rfl (fun _ => r_quo (k := .u64) (a := ((if (val x) < 18446744073709551616 then (val x) else 0 : Nat) : Int)) (b := ((if (val y) < 18446744073709551616 then (val y) else 0 : Nat) : Int)) (c := ((val x / val y : Nat) : Int)) rfl rfl (by rw [if_pos hy64]; omega) (by rw [if_pos hx64, if_pos hy64]; exact quoN hx64)) ?_
   refine aM 4 rfl (v := (.int .u64 (((if (val x) < 18446744073709551616 then (val x) else 0 : Nat) : Int)))) rfl ?_
   refine aM 5 rfl (v := (.int .u64 (((if (val y) < 18446744073709551616 then (val y) else 0 : Nat) : Int)))) rfl ?_
   refine ra 6 rfl (fun _ => r_rem (k := .u64) (a := ((if (val x) < 18446744073709551616 then (val x) else 0 : Nat) : Int)) (b := ((if (val y) < 18446744073709551616 then (val y) else 0 : Nat) : Int)) (c := ((val x % val y : Nat) : Int)) rfl rfl (by rw [if_pos hy64]; omega) (by rw [if_pos hx64, if_pos hy64]; exact remN _ _)) ?_
   refine RA.all [3] kR rfl ?_
   refine cS ent88 (r01_from oM) rfl rfl ?_ RS.nil
   rintro vr26 w24 ⟨hr27, he25⟩
   refine rm he25 ?_
   have he25z := he25.size
   replace hx := hx.tr (Sm.ext he25)
   replace hy := hy.tr (Sm.ext he25)
   replace hE := Below.ext hE oM he25
   replace hr4 := hr4.tr (Sm.ext he25)
   refine RA.all [7] kR rfl ?_
   refine cS ent88 (r01_from oM) rfl rfl ?_ RS.nil
   rintro vr30 w28 ⟨hr31, he29⟩
   refine rm he29 ?_
   have he29z := he29.size
   replace hx := hx.tr (Sm.ext he29)
   replace hy := hy.tr (Sm.ext he29)
   replace hE := Below.ext hE oM he29
   replace hr4 := hr4.tr (Sm.ext he29)
   replace hr27 := hr27.tr (Sm.ext he29)
   refine aA 8 rfl (v := vr26) rfl ?_
   refine aA 9 rfl (v := vr30) rfl ?_
   refine aA 10 rfl (v := (.bool true)) rfl ?_
   refine RA.done kR ?_
   refine wret ?_
   refine ⟨[vr26, vr30, (.bool true)], ⟨rfl, ⟨rfl, ⟨rfl, trivial⟩⟩⟩, ?_⟩
   have h1 := hr27
   have h2 := hr31
   have hm : modZ (val x) (val y) = val x % val y := if_neg hy0
   exact ⟨⟨_, _, by rw [decide_eq_true hy0]; rfl, h1.mono (fun b T h => by first | exact ⟨by have := h.1; omega, h.2⟩ | exact ⟨by have := h.1; omega, h.2.1⟩ | exact ⟨by have := h.1; omega, h.2, by have := h.1; omega⟩ | exact ⟨by have := h.1; omega, h.2.1, by have := h.1; omega⟩ | exact ⟨by have := h.1; omega, h.2.1, h.2.2⟩), by rw [hm]; exact h2.mono (fun b T h => by first | exact ⟨by have := h.1; omega, h.2⟩ | exact ⟨by have := h.1; omega, h.2.1⟩ | exact ⟨by have := h.1; omega, h.2, by have := h.1; omega⟩ | exact ⟨by have := h.1; omega, h.2.1, by have := h.1; omega⟩ | exact ⟨by have := h.1; omega, h.2.1, h.2.2⟩)⟩, hE⟩
  refine wskip ?_
  refine wseq ?_
  replace hr4 := hr4.old
  refine wregion (mV (v := vx) (hF0 0) ?_)
  obtain ⟨A32, c33, hv34, hc35, hc36⟩ := hx.len
  refine rV (r_len uT40 hv34) ?_
  have hn42 : (((x.length : Nat) : Int) : Int) = ((x.length : Nat) : Int) := by omega
  refine rU (h_make1 (n := x.length) uT40 ty89 rfl (int_eq hn42) (int_eq hn42) oM oM) ?_
  rintro _ w37 ⟨b38, rfl, hs41, hb40, he39⟩
  have he39z := he39.size
  replace hx := hx.tr (Sm.ext he39)
  replace hy := hy.tr (Sm.ext he39)
  replace hE := Below.ext hE oM he39
  replace hr4 := hr4.tr (Sm.ext he39)
  replace hb40 := Ar.made (g := (gN .u32)) (z := (0 : Nat)) hb40 rfl
  have hb40l := hb40.lt
  refine aS (v := (.slice (some ⟨b38, 0, none⟩) (x.length) (x.length))) rfl (RL.nil (wseq (wsr (mV (v := vx) (hF0 0) ?_))))
  refine cL ent124 (r01_bits hx (by assumption) oS) rfl ?_
  rintro _ w43 ⟨⟨t, rfl, ht, htl⟩, he44⟩
  have he44z := he44.size
  replace hx := hx.tr (Sm.ext he44)
  replace hy := hy.tr (Sm.ext he44)
  replace hE := Below.ext hE oM he44
  replace hr4 := hr4.tr (Sm.ext he44)
  replace hb40 := hb40.ext he44
  refine rV (r_sub (k := .i64) (a := (t : Int)) (b := 1) (c := (t : Int) - 1) rfl rfl (wi64 oM)) (aS (v := (iv ((t : Int) - 1))) rfl (RL.nil ?_))
  refine wblock ?_
  refine wset fun F45 hF46 => ?_
  refine wloop (σ := Nat × Nat × Nat × List Nat × Value) (fun (s : Nat × Nat × Nat × List Nat × Value) fl wl => match s with | (j, Qn, r, O, v5) => Off (5 :: (rg 11 3 (rg 47 33 []))) F45 fl ∧ fl 11 = (iv ((j : Int) - 1)) ∧ fl 5 = v5 ∧ (j ≤ t) ∧ (val x / 2 ^ j = Qn * val y + r) ∧ (r < val y) ∧ (O.length = x.length) ∧ (Lm O) ∧ (val O = Qn * 2 ^ j) ∧ (Sg (gN .u32) (fun b T => Dx b T ∧ b < w.heap.size) wl vx x) ∧ (Sg (gN .u32) (fun b T => (fun b T => w.heap.size ≤ b ∧ T = 89) b T ∧ b < w16.heap.size) wl vr3 (digs (val y))) ∧ (Ar (gN .u32) wl b38 89 0 O x.length) ∧ (Below w.heap.size w wl) ∧ (Sg (gN .u32) (fun b T => w.heap.size ≤ b ∧ T = 89 ∧ b ≠ b38) wl v5 (digs r)) ∧ (w43.heap.size ≤ wl.heap.size)) (fun (s : Nat × Nat × Nat × List Nat × Value) => match s with | (j, Qn, r, O, v5) => j) (t, 0, 0, List.replicate x.length 0, .slice none 0 0) ?_ ?_
  ·exact ⟨Off.refl _ _, (hF46 11).trans (rfl), (hF46 5).trans (rfl), Nat.le_refl _, (by rw [Nat.div_eq_of_lt ht]; simp), oM, (by simp), Lm.zeros _, (by rw [val_zeros]; simp), hx, hr4, hb40, hE, Sg.nil, Nat.le_refl _⟩
  clear hx hy hE hr4 hb40
  rintro ⟨j, Qn, r, O, v5⟩ f48 w49 ⟨G50, hs51, hs52, hj, hdiv, hr, hOl, hOm, hOv, hx, hr4, hb40, hE, hr5, hz47⟩
  refine wseq (wsr (mV hs51 (rV (r_geq (k := .i64) (a := (j : Int) - 1) (b := 0) rfl rfl) (RL.nil ?_))))
  refine wcD (p := 0 ≤ ((j : Int) - 1)) rfl (fun hb53 hb53p => ?_) (fun hb53 hb53p => ?_)
  ·refine wskip ?_
   refine wseq ?_
   refine wblock ?_
   refine wseq ?_
   obtain ⟨i, hi⟩ : ∃ i, j = i + 1 := ⟨j - 1, by omega⟩
   have hlr : (digs r).length ≤ (digs (val y)).length := len_mono oM
   have hb1 : val x / 2 ^ i % 2 < 2 := Nat.mod_lt _ dC
   have hlr2 := len_add r r
   simp only [← len_digs] at hlr2
   have hnx := div_next (i := i) (by rw [← hi]; exact hdiv)
   refine wregion (mV hs52 (mV hs52 ?_))
   refine cL ent118 (r01_add hr5 (digs_lm _) oS hr5 (digs_lm _) oS) rfl ?_
   rintro vr56 w54 ⟨hr57, he55⟩
   try rw [val_digs] at hr57
   try rw [val_digs] at hr57
   have he55z := he55.size
   replace hx := hx.tr (Sm.ext he55)
   replace hE := Below.ext hE oM he55
   replace hr4 := hr4.tr (Sm.ext he55)
   replace hb40 := hb40.ext he55
   replace hr5 := hr5.tr (Sm.ext he55)
   refine aS (v := vr56) rfl (RL.nil ?_)
   refine wset fun F58 hF59 => ?_
   refine wcut (fun fl wl => ∃ v6 : Value, Off (5 :: (rg 54 7 [])) F58 fl ∧ fl 5 = v6 ∧ (Sg (gN .u32) (fun b T => Dx b T ∧ b < w.heap.size) wl vx x) ∧ (Sg (gN .u32) (fun b T => (fun b T => w.heap.size ≤ b ∧ T = 89) b T ∧ b < w16.heap.size) wl vr3 (digs (val y))) ∧ (Ar (gN .u32) wl b38 89 0 O x.length) ∧ (Below w.heap.size w wl) ∧ (Sg (gN .u32) (fun b T => w.heap.size ≤ b ∧ T = 89 ∧ b ≠ b38) wl v6 (digs (r + r + val x / 2 ^ i % 2))) ∧ (w54.heap.size ≤ wl.heap.size)) ?_ ?_
   ·have G61 := Off.refl (5 :: (rg 54 7 [])) F58
    refine wsr (mV (v := vx) ((hF59 0).trans ((G50 0 rfl).trans ((hF46 0).trans (hF0 0)))) (mV (v := .int .i64 (i : Int)) (((hF59 11).trans hs51).trans (int_eq oM)) ?_))
    refine cL ent125 (r01_bit hx (by assumption) oS (i := i) oM) rfl ?_
    rintro _ w62 ⟨rfl, he63⟩
    have he63z := he63.size
    replace hx := hx.tr (Sm.ext he63)
    replace hE := Below.ext hE oM he63
    replace hr4 := hr4.tr (Sm.ext he63)
    replace hb40 := hb40.ext he63
    replace hr5 := hr5.tr (Sm.ext he63)
    replace hr57 := hr57.tr (Sm.ext he63)
    refine rV (r_eql (k := .u32) (a := (((val x) / 2 ^ i % 2 : Nat) : Int)) (b := 1) rfl rfl) (RL.nil ?_)
    refine wcD (p := (((val x) / 2 ^ i % 2 : Nat) : Int) = 1) rfl (fun hb64 hb64p => ?_) (fun hb64 hb64p => ?_)
    ·refine wregion ?_
     refine mV (v := vr56) (hF59 5) ?_
     refine rU (h_lit (vl := [(0, (.int .u32 1))]) (cs := [(.int .u32 1)]) uT40 ty89 rfl dC (by first | (simp [Instr.fill, Value.cells]; done) | rfl | kernel_rfl)) ?_
     rintro _ w65 ⟨b66, rfl, hs69, hb68, he67⟩
     have he67z := he67.size
     replace hx := hx.tr (Sm.ext he67)
     replace hE := Below.ext hE oM he67
     replace hr4 := hr4.tr (Sm.ext he67)
     replace hb40 := hb40.ext he67
     replace hr5 := hr5.tr (Sm.ext he67)
     replace hr57 := hr57.tr (Sm.ext he67)
     have hb68l := hb68.lt
     refine cL (vl := [vr56, (.slice (some ⟨b66, 0, none⟩) (1) (1))]) ent118 (r01_add hr57 (digs_lm _) oS (hb68.sg (g := gN .u32) (D := fun _ _ => True) (xs := [1]) trivial rfl rfl dC) (by first | assumption | (intro z hz; simp at hz; omega)) oS) rfl ?_
     rintro vr72 w70 ⟨hr73, he71⟩
     try rw [val_digs] at hr73
     have he71z := he71.size
     replace hx := hx.tr (Sm.ext he71)
     replace hE := Below.ext hE oM he71
     replace hr4 := hr4.tr (Sm.ext he71)
     replace hb40 := hb40.ext he71
     replace hr5 := hr5.tr (Sm.ext he71)
     replace hr57 := hr57.tr (Sm.ext he71)
     replace hb68 := hb68.ext he71
     refine aS (v := vr72) rfl (RL.nil ?_)
     refine ⟨vr72, ?_, ?_, ?_, ?_, ?_, ?_, ?_, ?_⟩
     · exact (by repeat (first | exact G61 | refine Off.st ?_ dC _ | refine Off.via G50 dC ?_ | refine Off.eq hF46 ?_))
     · first | rfl | exact int_eq oM | exact bool_eq (by simp)
     · exact hx
     · exact hr4
     · exact hb40
     · exact hE
     · have h9 : (digs ((r + r) + (val ([1])))) = digs (r + r + val x / 2 ^ i % 2) := by first | rfl | (have h8 : val [1] = 1 := rfl; rw [h8]; congr 1; omega) | (congr 1; omega)
       rw [← h9]
       exact hr73.mono (fun b T h => by first | exact ⟨by have := h.1; omega, h.2⟩ | exact ⟨by have := h.1; omega, h.2.1⟩ | exact ⟨by have := h.1; omega, h.2, by have := h.1; omega⟩ | exact ⟨by have := h.1; omega, h.2.1, by have := h.1; omega⟩ | exact ⟨by have := h.1; omega, h.2.1, h.2.2⟩)
     omega
    refine wskip ?_
    refine ⟨vr56, ?_, ?_, ?_, ?_, ?_, ?_, ?_, ?_⟩
    · exact (by repeat (first | exact G61 | refine Off.st ?_ dC _ | refine Off.via G50 dC ?_ | refine Off.eq hF46 ?_))
    · refine ((hF59 5)).trans ?_
      first | rfl | exact int_eq oM | exact bool_eq (by simp)
    · exact hx
    · exact hr4
    · exact hb40
    · exact hE
    · have h9 : (digs (r + r)) = digs (r + r + val x / 2 ^ i % 2) := by first | rfl | (have h8 : val [1] = 1 := rfl; rw [h8]; congr 1; omega) | (congr 1; omega)
      rw [← h9]
      exact hr57.mono (fun b T h => by first | exact ⟨by have := h.1; omega, h.2⟩ | exact ⟨by have := h.1; omega, h.2.1⟩ | exact ⟨by have := h.1; omega, h.2, by have := h.1; omega⟩ | exact ⟨by have := h.1; omega, h.2.1, by have := h.1; omega⟩ | exact ⟨by have := h.1; omega, h.2.1, h.2.2⟩)
    omega
   clear hx hE hr4 hb40 hr5 hr57
   rintro f74 w75 ⟨v6, G76, hs77, hx, hr4, hb40, hE, hr6, hz60⟩
   refine wseq ?_
   have hlr3 := len_mono (m := (r + r + val x / 2 ^ i % 2)) (n := val y + val y) oM
   have hlr4 := len_add (val y) (val y)
   simp only [← len_digs] at hlr3 hlr4
   refine wregion (mV hs77 (mV (v := vr3) ((G76 1 rfl).trans ((hF59 1).trans ((G50 1 rfl).trans (hF46 1)))) ?_))
   refine cL ent119 (r01_sub hr6 (digs_lm _) oS hr4 (digs_lm _) oS) rfl ?_
   rintro vq82 w78 ⟨⟨vr80, hq83, hr81⟩, he79⟩
   simp only [val_digs] at hq83 hr81
   subst hq83
   have he79z := he79.size
   replace hx := hx.tr (Sm.ext he79)
   replace hE := Below.ext hE oM he79
   replace hr4 := hr4.tr (Sm.ext he79)
   replace hb40 := hb40.ext he79
   replace hr6 := hr6.tr (Sm.ext he79)
   refine mV (v := (.tuple #[vr80, (bd ((val y) ≤ (r + r + val x / 2 ^ i % 2)))])) rfl (rV (r_extract (v := vr80) rfl rfl) (rV (r_extract (v := (bd ((val y) ≤ (r + r + val x / 2 ^ i % 2)))) rfl rfl) (aS (v := vr80) rfl (aS (v := (bd ((val y) ≤ (r + r + val x / 2 ^ i % 2)))) rfl (RL.nil (wsr (mV (v := (bd ((val y) ≤ (r + r + val x / 2 ^ i % 2)))) rfl (RL.nil ?_))))))))
   refine wcD (p := (val y) ≤ (r + r + val x / 2 ^ i % 2)) rfl (fun hb84 hb84p => ?_) (fun hb84 hb84p => ?_)
   ·refine wsr ?_
    refine mV (v := vr80) rfl (aS (v := vr80) rfl (RL.nil ?_))
    have hsb := setbit (i := i) hOm oM (by rw [hOv, hi]; exact Nat.mul_mod_left _ _)
    refine wregion (mV (v := (.slice (some ⟨b38, 0, none⟩) (x.length) (x.length))) ((G76 4 rfl).trans ((hF59 4).trans ((G50 4 rfl).trans (hF46 4)))) (mV (v := .int .i64 (i : Int)) (((G76 11 rfl).trans ((hF59 11).trans hs51)).trans (int_eq oM)) (rV (r_quo (k := .i64) (a := (i : Int)) (b := 32) (c := ((i / 32 : Nat) : Int)) rfl rfl dC (quo32 oM)) (rV (r_indexAddr (i := ((i / 32 : Nat) : Int)) uT40 ty89 rfl rfl oM oM) ?_))))
    have hc85 := hb40.cell (i := ((i / 32 : Nat) : Int)) (i / 32) oM oM
    refine rV (r_load (v := (.int .u32 (((O.getD (i / 32) default : Nat) : Int)))) uT89 ag89 rfl hc85) (mV (v := .int .i64 (i : Int)) (((G76 11 rfl).trans ((hF59 11).trans hs51)).trans (int_eq oM)) (rV (r_rem (k := .i64) (a := (i : Int)) (b := 32) (c := ((i % 32 : Nat) : Int)) rfl rfl dC (rem32 _)) (rV (r_conv (k := .u64) (a := ((i % 32 : Nat) : Int)) (c := ((i % 32 : Nat) : Int)) uT3 uT77 rfl (wu64 oM)) (rV (r_shl (k := .u32) (a := 1) (b := ((i % 32 : Nat) : Int)) (c := ((2 ^ (i % 32) : Nat) : Int)) rfl rfl oM (shl1 oM)) (rV (r_or (k := .u32) (a := ((O.getD (i / 32) default : Nat) : Int)) (b := ((2 ^ (i % 32) : Nat) : Int)) (c := ((O.getD (i / 32) default ||| 2 ^ (i % 32) : Nat) : Int)) rfl rfl (orN (hOm.at oM) (show 2 ^ (i % 32) < 2 ^ 32 from Nat.pow_lt_pow_right dC oM))) (rV (r_indexAddr (i := ((i / 32 : Nat) : Int)) uT40 ty89 rfl rfl oM oM) ?_))))))
    refine RL.runs rfl rfl (h_set (g := (gN .u32)) (vv := (.int .u32 (((O.getD (i / 32) default ||| 2 ^ (i % 32) : Nat) : Int)))) (u := O.getD (i / 32) default + 2 ^ (i % 32)) (i := ((i / 32 : Nat) : Int)) ty89 rfl rfl (int_eq (by rw [hsb.1])) rfl rfl hb40 (i / 32) oM oM) ?_
    rintro w86 ⟨ha87, hx88⟩
    have hx88z := hx88.size
    replace hx := hx.tr (hb40.sm hx88 (by (intro h; have := h.2; omega)))
    replace hE := Below.exc hE oM hx88 oM
    replace hr4 := hr4.tr (hb40.sm hx88 (by (intro h; have := h.2; omega)))
    replace hr6 := hr6.tr (hb40.sm hx88 (by (intro h; exact h.2.2 rfl)))
    replace hr81 := hr81.tr (hb40.sm hx88 (by intro hd; have hd2 := hd.1; omega))
    replace hb40 := ha87
    refine RL.nil (wregion (mV (v := (iv ((j : Int) - 1))) ((G76 11 rfl).trans ((hF59 11).trans hs51)) (rV (r_sub (k := .i64) (a := (j : Int) - 1) (b := 1) (c := ((j : Int) - 1) - 1) rfl rfl (wi64 oM)) (aS (v := (iv (((j : Int) - 1) - 1))) rfl (RL.nil ?_)))))
    refine ⟨(i, 2 * Qn + 1, (r + r + val x / 2 ^ i % 2) - val y, O.set (i / 32) (O.getD (i / 32) default + 2 ^ (i % 32)), vr80), ⟨?_, ?_, ?_, ?_, ?_, ?_, ?_, ?_, ?_, ?_, ?_, ?_, ?_, ?_, ?_⟩, ?_⟩
    · exact (by repeat (first | exact G50 | refine Off.st ?_ dC _ | refine Off.via G76 dC ?_ | refine Off.eq hF59 ?_))
    · first | rfl | exact int_eq oM | exact bool_eq (by simp)
    · first | rfl | exact int_eq oM | exact bool_eq (by simp)
    · omega
    · rw [hnx, Nat.add_mul, Nat.one_mul]; omega
    · omega
    · rw [List.length_set]; exact hOl
    · exact hOm.set hsb.2.1
    · rw [hsb.2.2, hOv, hi, dm_shift, Nat.add_mul, Nat.one_mul]
    · exact hx
    · exact hr4
    · exact hb40
    · exact hE
    · exact hr81.mono (fun b T h => by first | exact ⟨by have := h.1; omega, h.2⟩ | exact ⟨by have := h.1; omega, h.2.1⟩ | exact ⟨by have := h.1; omega, h.2, by have := h.1; omega⟩ | exact ⟨by have := h.1; omega, h.2.1, by have := h.1; omega⟩ | exact ⟨by have := h.1; omega, h.2.1, h.2.2⟩)
    · omega
    (try dsimp only)
    omega
   refine wskip ?_
   refine wregion (mV (v := (iv ((j : Int) - 1))) ((G76 11 rfl).trans ((hF59 11).trans hs51)) (rV (r_sub (k := .i64) (a := (j : Int) - 1) (b := 1) (c := ((j : Int) - 1) - 1) rfl rfl (wi64 oM)) (aS (v := (iv (((j : Int) - 1) - 1))) rfl (RL.nil ?_))))
   refine ⟨(i, 2 * Qn, (r + r + val x / 2 ^ i % 2), O, v6), ⟨?_, ?_, ?_, ?_, ?_, ?_, ?_, ?_, ?_, ?_, ?_, ?_, ?_, ?_, ?_⟩, ?_⟩
   · exact (by repeat (first | exact G50 | refine Off.st ?_ dC _ | refine Off.via G76 dC ?_ | refine Off.eq hF59 ?_))
   · first | rfl | exact int_eq oM | exact bool_eq (by simp)
   · refine (hs77).trans ?_
     first | rfl | exact int_eq oM | exact bool_eq (by simp)
   · omega
   · exact hnx
   · omega
   · exact hOl
   · exact hOm
   · rw [hOv, hi, dm_shift]
   · exact hx
   · exact hr4
   · exact hb40
   · exact hE
   · exact hr6.mono (fun b T h => by first | exact ⟨by have := h.1; omega, h.2⟩ | exact ⟨by have := h.1; omega, h.2.1⟩ | exact ⟨by have := h.1; omega, h.2, by have := h.1; omega⟩ | exact ⟨by have := h.1; omega, h.2.1, by have := h.1; omega⟩ | exact ⟨by have := h.1; omega, h.2.1, h.2.2⟩)
   · omega
   (try dsimp only)
   omega
  refine wexit ?_
  refine wseq ?_
  have hj0 : j = 0 := by omega
  have hfin := div_fin (n := val x) (b := val y) (Qn := Qn) (r := r) (by rw [hj0, Nat.pow_zero, Nat.div_one] at hdiv; exact hdiv) hr
  have hOq : val O = Qn := by rw [hOv, hj0, Nat.pow_zero, Nat.mul_one]
  have hlr : (digs r).length ≤ (digs (val y)).length := len_mono oM
  refine wregion (mV (v := (.slice (some ⟨b38, 0, none⟩) (x.length) (x.length))) ((G50 4 rfl).trans (hF46 4)) ?_)
  refine cL ent112 (r01_trim (hb40.sc (D := fun _ _ => True) (Nat.le_refl _) oM trivial) (by assumption) oS) rfl ?_
  rintro vr91 w89 ⟨hr92, he90⟩
  have he90z := he90.size
  replace hx := hx.tr (Sm.ext he90)
  replace hE := Below.ext hE oM he90
  replace hr4 := hr4.tr (Sm.ext he90)
  replace hb40 := hb40.ext he90
  replace hr5 := hr5.tr (Sm.ext he90)
  have hlt93 : (digs (val O)).length ≤ O.length := len_le_of (by assumption)
  refine mV hs52 ?_
  refine cL ent112 (r01_trim hr5 (digs_lm _) oS) rfl ?_
  rintro vr96 w94 ⟨hr97, he95⟩
  try rw [val_digs] at hr97
  have he95z := he95.size
  replace hx := hx.tr (Sm.ext he95)
  replace hE := Below.ext hE oM he95
  replace hr4 := hr4.tr (Sm.ext he95)
  replace hb40 := hb40.ext he95
  replace hr5 := hr5.tr (Sm.ext he95)
  replace hr92 := hr92.tr (Sm.ext he95)
  refine aS (v := vr91) rfl (aS (v := vr96) rfl (aS (v := (.bool true)) rfl (RL.nil ?_)))
  refine wret ?_
  refine ⟨[vr91, vr96, (.bool true)], ⟨rfl, ⟨rfl, ⟨rfl, trivial⟩⟩⟩, ?_⟩
  have h1 := hr92
  have h2 := hr97
  rw [hOq, hfin.1] at h1
  rw [hfin.2] at h2
  have hm : modZ (val x) (val y) = val x % val y := if_neg hy0
  exact ⟨⟨_, _, by rw [decide_eq_true hy0]; rfl, h1.mono (fun b T h => by first | exact ⟨by have := h.1; omega, h.2⟩ | exact ⟨by have := h.1; omega, h.2.1⟩ | exact ⟨by have := h.1; omega, h.2, by have := h.1; omega⟩ | exact ⟨by have := h.1; omega, h.2.1, by have := h.1; omega⟩ | exact ⟨by have := h.1; omega, h.2.1, h.2.2⟩), by rw [hm]; exact h2.mono (fun b T h => by first | exact ⟨by have := h.1; omega, h.2⟩ | exact ⟨by have := h.1; omega, h.2.1⟩ | exact ⟨by have := h.1; omega, h.2, by have := h.1; omega⟩ | exact ⟨by have := h.1; omega, h.2.1, by have := h.1; omega⟩ | exact ⟨by have := h.1; omega, h.2.1, h.2.2⟩)⟩, hE⟩
 refine RL.gno rfl rfl (bool_eq hb20) rfl dC ?_
 refine rV (r_pick_f (v := (.bool false)) (bool_eq hb20) rfl) (RL.nil ?_)
 refine wcond_f rfl ?_
 refine wskip ?_
 refine wseq ?_
 replace hr4 := hr4.old
 refine wregion (mV (v := vx) (hF0 0) ?_)
 obtain ⟨A98, c99, hv100, hc101, hc102⟩ := hx.len
 refine rV (r_len uT40 hv100) ?_
 have hn108 : (((x.length : Nat) : Int) : Int) = ((x.length : Nat) : Int) := by omega
 refine rU (h_make1 (n := x.length) uT40 ty89 rfl (int_eq hn108) (int_eq hn108) oM oM) ?_
 rintro _ w103 ⟨b104, rfl, hs107, hb106, he105⟩
 have he105z := he105.size
 replace hx := hx.tr (Sm.ext he105)
 replace hy := hy.tr (Sm.ext he105)
 replace hE := Below.ext hE oM he105
 replace hr4 := hr4.tr (Sm.ext he105)
 replace hb106 := Ar.made (g := (gN .u32)) (z := (0 : Nat)) hb106 rfl
 have hb106l := hb106.lt
 refine aS (v := (.slice (some ⟨b104, 0, none⟩) (x.length) (x.length))) rfl (RL.nil (wseq (wsr (mV (v := vx) (hF0 0) ?_))))
 refine cL ent124 (r01_bits hx (by assumption) oS) rfl ?_
 rintro _ w109 ⟨⟨t, rfl, ht, htl⟩, he110⟩
 have he110z := he110.size
 replace hx := hx.tr (Sm.ext he110)
 replace hy := hy.tr (Sm.ext he110)
 replace hE := Below.ext hE oM he110
 replace hr4 := hr4.tr (Sm.ext he110)
 replace hb106 := hb106.ext he110
 refine rV (r_sub (k := .i64) (a := (t : Int)) (b := 1) (c := (t : Int) - 1) rfl rfl (wi64 oM)) (aS (v := (iv ((t : Int) - 1))) rfl (RL.nil ?_))
 refine wblock ?_
 refine wset fun F111 hF112 => ?_
 refine wloop (σ := Nat × Nat × Nat × List Nat × Value) (fun (s : Nat × Nat × Nat × List Nat × Value) fl wl => match s with | (j, Qn, r, O, v5) => Off (5 :: (rg 11 3 (rg 47 33 []))) F111 fl ∧ fl 11 = (iv ((j : Int) - 1)) ∧ fl 5 = v5 ∧ (j ≤ t) ∧ (val x / 2 ^ j = Qn * val y + r) ∧ (r < val y) ∧ (O.length = x.length) ∧ (Lm O) ∧ (val O = Qn * 2 ^ j) ∧ (Sg (gN .u32) (fun b T => Dx b T ∧ b < w.heap.size) wl vx x) ∧ (Sg (gN .u32) (fun b T => (fun b T => w.heap.size ≤ b ∧ T = 89) b T ∧ b < w16.heap.size) wl vr3 (digs (val y))) ∧ (Ar (gN .u32) wl b104 89 0 O x.length) ∧ (Below w.heap.size w wl) ∧ (Sg (gN .u32) (fun b T => w.heap.size ≤ b ∧ T = 89 ∧ b ≠ b104) wl v5 (digs r)) ∧ (w109.heap.size ≤ wl.heap.size)) (fun (s : Nat × Nat × Nat × List Nat × Value) => match s with | (j, Qn, r, O, v5) => j) (t, 0, 0, List.replicate x.length 0, .slice none 0 0) ?_ ?_
 ·exact ⟨Off.refl _ _, (hF112 11).trans (rfl), (hF112 5).trans (rfl), Nat.le_refl _, (by rw [Nat.div_eq_of_lt ht]; simp), oM, (by simp), Lm.zeros _, (by rw [val_zeros]; simp), hx, hr4, hb106, hE, Sg.nil, Nat.le_refl _⟩
 clear hx hy hE hr4 hb106
 rintro ⟨j, Qn, r, O, v5⟩ f114 w115 ⟨G116, hs117, hs118, hj, hdiv, hr, hOl, hOm, hOv, hx, hr4, hb106, hE, hr5, hz113⟩
 refine wseq (wsr (mV hs117 (rV (r_geq (k := .i64) (a := (j : Int) - 1) (b := 0) rfl rfl) (RL.nil ?_))))
 refine wcD (p := 0 ≤ ((j : Int) - 1)) rfl (fun hb119 hb119p => ?_) (fun hb119 hb119p => ?_)
 ·refine wskip ?_
  refine wseq ?_
  refine wblock ?_
  refine wseq ?_
  obtain ⟨i, hi⟩ : ∃ i, j = i + 1 := ⟨j - 1, by omega⟩
  have hlr : (digs r).length ≤ (digs (val y)).length := len_mono oM
  have hb1 : val x / 2 ^ i % 2 < 2 := Nat.mod_lt _ dC
  have hlr2 := len_add r r
  simp only [← len_digs] at hlr2
  have hnx := div_next (i := i) (by rw [← hi]; exact hdiv)
  refine wregion (mV hs118 (mV hs118 ?_))
  refine cL ent118 (r01_add hr5 (digs_lm _) oS hr5 (digs_lm _) oS) rfl ?_
  rintro vr122 w120 ⟨hr123, he121⟩
  try rw [val_digs] at hr123
  try rw [val_digs] at hr123
  have he121z := he121.size
  replace hx := hx.tr (Sm.ext he121)
  replace hE := Below.ext hE oM he121
  replace hr4 := hr4.tr (Sm.ext he121)
  replace hb106 := hb106.ext he121
  replace hr5 := hr5.tr (Sm.ext he121)
  refine aS (v := vr122) rfl (RL.nil ?_)
  refine wset fun F124 hF125 => ?_
  refine wcut (fun fl wl => ∃ v6 : Value, Off (5 :: (rg 54 7 [])) F124 fl ∧ fl 5 = v6 ∧ (Sg (gN .u32) (fun b T => Dx b T ∧ b < w.heap.size) wl vx x) ∧ (Sg (gN .u32) (fun b T => (fun b T => w.heap.size ≤ b ∧ T = 89) b T ∧ b < w16.heap.size) wl vr3 (digs (val y))) ∧ (Ar (gN .u32) wl b104 89 0 O x.length) ∧ (Below w.heap.size w wl) ∧ (Sg (gN .u32) (fun b T => w.heap.size ≤ b ∧ T = 89 ∧ b ≠ b104) wl v6 (digs (r + r + val x / 2 ^ i % 2))) ∧ (w120.heap.size ≤ wl.heap.size)) ?_ ?_
  ·have G127 := Off.refl (5 :: (rg 54 7 [])) F124
   refine wsr (mV (v := vx) ((hF125 0).trans ((G116 0 rfl).trans ((hF112 0).trans (hF0 0)))) (mV (v := .int .i64 (i : Int)) (((hF125 11).trans hs117).trans (int_eq oM)) ?_))
   refine cL ent125 (r01_bit hx (by assumption) oS (i := i) oM) rfl ?_
   rintro _ w128 ⟨rfl, he129⟩
   have he129z := he129.size
   replace hx := hx.tr (Sm.ext he129)
   replace hE := Below.ext hE oM he129
   replace hr4 := hr4.tr (Sm.ext he129)
   replace hb106 := hb106.ext he129
   replace hr5 := hr5.tr (Sm.ext he129)
   replace hr123 := hr123.tr (Sm.ext he129)
   refine rV (r_eql (k := .u32) (a := (((val x) / 2 ^ i % 2 : Nat) : Int)) (b := 1) rfl rfl) (RL.nil ?_)
   refine wcD (p := (((val x) / 2 ^ i % 2 : Nat) : Int) = 1) rfl (fun hb130 hb130p => ?_) (fun hb130 hb130p => ?_)
   ·refine wregion ?_
    refine mV (v := vr122) (hF125 5) ?_
    refine rU (h_lit (vl := [(0, (.int .u32 1))]) (cs := [(.int .u32 1)]) uT40 ty89 rfl dC (by first | (simp [Instr.fill, Value.cells]; done) | rfl | kernel_rfl)) ?_
    rintro _ w131 ⟨b132, rfl, hs135, hb134, he133⟩
    have he133z := he133.size
    replace hx := hx.tr (Sm.ext he133)
    replace hE := Below.ext hE oM he133
    replace hr4 := hr4.tr (Sm.ext he133)
    replace hb106 := hb106.ext he133
    replace hr5 := hr5.tr (Sm.ext he133)
    replace hr123 := hr123.tr (Sm.ext he133)
    have hb134l := hb134.lt
    refine cL (vl := [vr122, (.slice (some ⟨b132, 0, none⟩) (1) (1))]) ent118 (r01_add hr123 (digs_lm _) oS (hb134.sg (g := gN .u32) (D := fun _ _ => True) (xs := [1]) trivial rfl rfl dC) (by first | assumption | (intro z hz; simp at hz; omega)) oS) rfl ?_
    rintro vr138 w136 ⟨hr139, he137⟩
    try rw [val_digs] at hr139
    have he137z := he137.size
    replace hx := hx.tr (Sm.ext he137)
    replace hE := Below.ext hE oM he137
    replace hr4 := hr4.tr (Sm.ext he137)
    replace hb106 := hb106.ext he137
    replace hr5 := hr5.tr (Sm.ext he137)
    replace hr123 := hr123.tr (Sm.ext he137)
    replace hb134 := hb134.ext he137
    refine aS (v := vr138) rfl (RL.nil ?_)
    refine ⟨vr138, ?_, ?_, ?_, ?_, ?_, ?_, ?_, ?_⟩
    · exact (by repeat (first | exact G127 | refine Off.st ?_ dC _ | refine Off.via G116 dC ?_ | refine Off.eq hF112 ?_))
    · first | rfl | exact int_eq oM | exact bool_eq (by simp)
    · exact hx
    · exact hr4
    · exact hb106
    · exact hE
    · have h9 : (digs ((r + r) + (val ([1])))) = digs (r + r + val x / 2 ^ i % 2) := by first | rfl | (have h8 : val [1] = 1 := rfl; rw [h8]; congr 1; omega) | (congr 1; omega)
      rw [← h9]
      exact hr139.mono (fun b T h => by first | exact ⟨by have := h.1; omega, h.2⟩ | exact ⟨by have := h.1; omega, h.2.1⟩ | exact ⟨by have := h.1; omega, h.2, by have := h.1; omega⟩ | exact ⟨by have := h.1; omega, h.2.1, by have := h.1; omega⟩ | exact ⟨by have := h.1; omega, h.2.1, h.2.2⟩)
    omega
   refine wskip ?_
   refine ⟨vr122, ?_, ?_, ?_, ?_, ?_, ?_, ?_, ?_⟩
   · exact (by repeat (first | exact G127 | refine Off.st ?_ dC _ | refine Off.via G116 dC ?_ | refine Off.eq hF112 ?_))
   · refine ((hF125 5)).trans ?_
     first | rfl | exact int_eq oM | exact bool_eq (by simp)
   · exact hx
   · exact hr4
   · exact hb106
   · exact hE
   · have h9 : (digs (r + r)) = digs (r + r + val x / 2 ^ i % 2) := by first | rfl | (have h8 : val [1] = 1 := rfl; rw [h8]; congr 1; omega) | (congr 1; omega)
     rw [← h9]
     exact hr123.mono (fun b T h => by first | exact ⟨by have := h.1; omega, h.2⟩ | exact ⟨by have := h.1; omega, h.2.1⟩ | exact ⟨by have := h.1; omega, h.2, by have := h.1; omega⟩ | exact ⟨by have := h.1; omega, h.2.1, by have := h.1; omega⟩ | exact ⟨by have := h.1; omega, h.2.1, h.2.2⟩)
   omega
  clear hx hE hr4 hb106 hr5 hr123
  rintro f140 w141 ⟨v6, G142, hs143, hx, hr4, hb106, hE, hr6, hz126⟩
  refine wseq ?_
  have hlr3 := len_mono (m := (r + r + val x / 2 ^ i % 2)) (n := val y + val y) oM
  have hlr4 := len_add (val y) (val y)
  simp only [← len_digs] at hlr3 hlr4
  refine wregion (mV hs143 (mV (v := vr3) ((G142 1 rfl).trans ((hF125 1).trans ((G116 1 rfl).trans (hF112 1)))) ?_))
  refine cL ent119 (r01_sub hr6 (digs_lm _) oS hr4 (digs_lm _) oS) rfl ?_
  rintro vq148 w144 ⟨⟨vr146, hq149, hr147⟩, he145⟩
  simp only [val_digs] at hq149 hr147
  subst hq149
  have he145z := he145.size
  replace hx := hx.tr (Sm.ext he145)
  replace hE := Below.ext hE oM he145
  replace hr4 := hr4.tr (Sm.ext he145)
  replace hb106 := hb106.ext he145
  replace hr6 := hr6.tr (Sm.ext he145)
  refine mV (v := (.tuple #[vr146, (bd ((val y) ≤ (r + r + val x / 2 ^ i % 2)))])) rfl (rV (r_extract (v := vr146) rfl rfl) (rV (r_extract (v := (bd ((val y) ≤ (r + r + val x / 2 ^ i % 2)))) rfl rfl) (aS (v := vr146) rfl (aS (v := (bd ((val y) ≤ (r + r + val x / 2 ^ i % 2)))) rfl (RL.nil (wsr (mV (v := (bd ((val y) ≤ (r + r + val x / 2 ^ i % 2)))) rfl (RL.nil ?_))))))))
  refine wcD (p := (val y) ≤ (r + r + val x / 2 ^ i % 2)) rfl (fun hb150 hb150p => ?_) (fun hb150 hb150p => ?_)
  ·refine wsr ?_
   refine mV (v := vr146) rfl (aS (v := vr146) rfl (RL.nil ?_))
   have hsb := setbit (i := i) hOm oM (by rw [hOv, hi]; exact Nat.mul_mod_left _ _)
   refine wregion (mV (v := (.slice (some ⟨b104, 0, none⟩) (x.length) (x.length))) ((G142 4 rfl).trans ((hF125 4).trans ((G116 4 rfl).trans (hF112 4)))) (mV (v := .int .i64 (i : Int)) (((G142 11 rfl).trans ((hF125 11).trans hs117)).trans (int_eq oM)) (rV (r_quo (k := .i64) (a := (i : Int)) (b := 32) (c := ((i / 32 : Nat) : Int)) rfl rfl dC (quo32 oM)) (rV (r_indexAddr (i := ((i / 32 : Nat) : Int)) uT40 ty89 rfl rfl oM oM) ?_))))
   have hc151 := hb106.cell (i := ((i / 32 : Nat) : Int)) (i / 32) oM oM
   refine rV (r_load (v := (.int .u32 (((O.getD (i / 32) default : Nat) : Int)))) uT89 ag89 rfl hc151) (mV (v := .int .i64 (i : Int)) (((G142 11 rfl).trans ((hF125 11).trans hs117)).trans (int_eq oM)) (rV (r_rem (k := .i64) (a := (i : Int)) (b := 32) (c := ((i % 32 : Nat) : Int)) rfl rfl dC (rem32 _)) (rV (r_conv (k := .u64) (a := ((i % 32 : Nat) : Int)) (c := ((i % 32 : Nat) : Int)) uT3 uT77 rfl (wu64 oM)) (rV (r_shl (k := .u32) (a := 1) (b := ((i % 32 : Nat) : Int)) (c := ((2 ^ (i % 32) : Nat) : Int)) rfl rfl oM (shl1 oM)) (rV (r_or (k := .u32) (a := ((O.getD (i / 32) default : Nat) : Int)) (b := ((2 ^ (i % 32) : Nat) : Int)) (c := ((O.getD (i / 32) default ||| 2 ^ (i % 32) : Nat) : Int)) rfl rfl (orN (hOm.at oM) (show 2 ^ (i % 32) < 2 ^ 32 from Nat.pow_lt_pow_right dC oM))) (rV (r_indexAddr (i := ((i / 32 : Nat) : Int)) uT40 ty89 rfl rfl oM oM) ?_))))))
   refine RL.runs rfl rfl (h_set (g := (gN .u32)) (vv := (.int .u32 (((O.getD (i / 32) default ||| 2 ^ (i % 32) : Nat) : Int)))) (u := O.getD (i / 32) default + 2 ^ (i % 32)) (i := ((i / 32 : Nat) : Int)) ty89 rfl rfl (int_eq (by rw [hsb.1])) rfl rfl hb106 (i / 32) oM oM) ?_
   rintro w152 ⟨ha153, hx154⟩
   have hx154z := hx154.size
   replace hx := hx.tr (hb106.sm hx154 (by (intro h; have := h.2; omega)))
   replace hE := Below.exc hE oM hx154 oM
   replace hr4 := hr4.tr (hb106.sm hx154 (by (intro h; have := h.2; omega)))
   replace hr6 := hr6.tr (hb106.sm hx154 (by (intro h; exact h.2.2 rfl)))
   replace hr147 := hr147.tr (hb106.sm hx154 (by intro hd; have hd2 := hd.1; omega))
   replace hb106 := ha153
   refine RL.nil (wregion (mV (v := (iv ((j : Int) - 1))) ((G142 11 rfl).trans ((hF125 11).trans hs117)) (rV (r_sub (k := .i64) (a := (j : Int) - 1) (b := 1) (c := ((j : Int) - 1) - 1) rfl rfl (wi64 oM)) (aS (v := (iv (((j : Int) - 1) - 1))) rfl (RL.nil ?_)))))
   refine ⟨(i, 2 * Qn + 1, (r + r + val x / 2 ^ i % 2) - val y, O.set (i / 32) (O.getD (i / 32) default + 2 ^ (i % 32)), vr146), ⟨?_, ?_, ?_, ?_, ?_, ?_, ?_, ?_, ?_, ?_, ?_, ?_, ?_, ?_, ?_⟩, ?_⟩
   · exact (by repeat (first | exact G116 | refine Off.st ?_ dC _ | refine Off.via G142 dC ?_ | refine Off.eq hF125 ?_))
   · first | rfl | exact int_eq oM | exact bool_eq (by simp)
   · first | rfl | exact int_eq oM | exact bool_eq (by simp)
   · omega
   · rw [hnx, Nat.add_mul, Nat.one_mul]; omega
   · omega
   · rw [List.length_set]; exact hOl
   · exact hOm.set hsb.2.1
   · rw [hsb.2.2, hOv, hi, dm_shift, Nat.add_mul, Nat.one_mul]
   · exact hx
   · exact hr4
   · exact hb106
   · exact hE
   · exact hr147.mono (fun b T h => by first | exact ⟨by have := h.1; omega, h.2⟩ | exact ⟨by have := h.1; omega, h.2.1⟩ | exact ⟨by have := h.1; omega, h.2, by have := h.1; omega⟩ | exact ⟨by have := h.1; omega, h.2.1, by have := h.1; omega⟩ | exact ⟨by have := h.1; omega, h.2.1, h.2.2⟩)
   · omega
   (try dsimp only)
   omega
  refine wskip ?_
  refine wregion (mV (v := (iv ((j : Int) - 1))) ((G142 11 rfl).trans ((hF125 11).trans hs117)) (rV (r_sub (k := .i64) (a := (j : Int) - 1) (b := 1) (c := ((j : Int) - 1) - 1) rfl rfl (wi64 oM)) (aS (v := (iv (((j : Int) - 1) - 1))) rfl (RL.nil ?_))))
  refine ⟨(i, 2 * Qn, (r + r + val x / 2 ^ i % 2), O, v6), ⟨?_, ?_, ?_, ?_, ?_, ?_, ?_, ?_, ?_, ?_, ?_, ?_, ?_, ?_, ?_⟩, ?_⟩
  · exact (by repeat (first | exact G116 | refine Off.st ?_ dC _ | refine Off.via G142 dC ?_ | refine Off.eq hF125 ?_))
  · first | rfl | exact int_eq oM | exact bool_eq (by simp)
  · refine (hs143).trans ?_
    first | rfl | exact int_eq oM | exact bool_eq (by simp)
  · omega
  · exact hnx
  · omega
  · exact hOl
  · exact hOm
  · rw [hOv, hi, dm_shift]
  · exact hx
  · exact hr4
  · exact hb106
  · exact hE
  · exact hr6.mono (fun b T h => by first | exact ⟨by have := h.1; omega, h.2⟩ | exact ⟨by have := h.1; omega, h.2.1⟩ | exact ⟨by have := h.1; omega, h.2, by have := h.1; omega⟩ | exact ⟨by have := h.1; omega, h.2.1, by have := h.1; omega⟩ | exact ⟨by have := h.1; omega, h.2.1, h.2.2⟩)
  · omega
  (try dsimp only)
  omega
 refine wexit ?_
 refine wseq ?_
 have hj0 : j = 0 := by omega
 have hfin := div_fin (n := val x) (b := val y) (Qn := Qn) (r := r) (by rw [hj0, Nat.pow_zero, Nat.div_one] at hdiv; exact hdiv) hr
 have hOq : val O = Qn := by rw [hOv, hj0, Nat.pow_zero, Nat.mul_one]
 have hlr : (digs r).length ≤ (digs (val y)).length := len_mono oM
 refine wregion (mV (v := (.slice (some ⟨b104, 0, none⟩) (x.length) (x.length))) ((G116 4 rfl).trans (hF112 4)) ?_)
 refine cL ent112 (r01_trim (hb106.sc (D := fun _ _ => True) (Nat.le_refl _) oM trivial) (by assumption) oS) rfl ?_
 rintro vr157 w155 ⟨hr158, he156⟩
 have he156z := he156.size
 replace hx := hx.tr (Sm.ext he156)
 replace hE := Below.ext hE oM he156
 replace hr4 := hr4.tr (Sm.ext he156)
 replace hb106 := hb106.ext he156
 replace hr5 := hr5.tr (Sm.ext he156)
 have hlt159 : (digs (val O)).length ≤ O.length := len_le_of (by assumption)
 refine mV hs118 ?_
 refine cL ent112 (r01_trim hr5 (digs_lm _) oS) rfl ?_
 rintro vr162 w160 ⟨hr163, he161⟩
 try rw [val_digs] at hr163
 have he161z := he161.size
 replace hx := hx.tr (Sm.ext he161)
 replace hE := Below.ext hE oM he161
 replace hr4 := hr4.tr (Sm.ext he161)
 replace hb106 := hb106.ext he161
 replace hr5 := hr5.tr (Sm.ext he161)
 replace hr158 := hr158.tr (Sm.ext he161)
 refine aS (v := vr157) rfl (aS (v := vr162) rfl (aS (v := (.bool true)) rfl (RL.nil ?_)))
 refine wret ?_
 refine ⟨[vr157, vr162, (.bool true)], ⟨rfl, ⟨rfl, ⟨rfl, trivial⟩⟩⟩, ?_⟩
 have h1 := hr158
 have h2 := hr163
 rw [hOq, hfin.1] at h1
 rw [hfin.2] at h2
 have hm : modZ (val x) (val y) = val x % val y := if_neg hy0
 exact ⟨⟨_, _, by rw [decide_eq_true hy0]; rfl, h1.mono (fun b T h => by first | exact ⟨by have := h.1; omega, h.2⟩ | exact ⟨by have := h.1; omega, h.2.1⟩ | exact ⟨by have := h.1; omega, h.2, by have := h.1; omega⟩ | exact ⟨by have := h.1; omega, h.2.1, by have := h.1; omega⟩ | exact ⟨by have := h.1; omega, h.2.1, h.2.2⟩), by rw [hm]; exact h2.mono (fun b T h => by first | exact ⟨by have := h.1; omega, h.2⟩ | exact ⟨by have := h.1; omega, h.2.1⟩ | exact ⟨by have := h.1; omega, h.2, by have := h.1; omega⟩ | exact ⟨by have := h.1; omega, h.2.1, by have := h.1; omega⟩ | exact ⟨by have := h.1; omega, h.2.1, h.2.2⟩)⟩, hE⟩
end Go.Proofs.YtelbjmhhbeijkaaGreat
namespace Go.Proofs.YtelbjmhhbeijkaaGreat
open Go.Vg Go.RowKit _root_.Go.Proofs.Tryz
set_option linter.unusedVariables false
open Go.Vm
set_option maxHeartbeats 1000000 in
theorem r01_mul {w : World} {Dx : Nat → TypeId → Prop} {vx : Value} {x : List Nat} (hx0 : Sg (gN .u32) Dx w vx x) (lmx : Lm x) (lnx : x.length ≤ 1099511627776) {Dy : Nat → TypeId → Prop} {vy : Value} {y : List Nat} (hy0 : Sg (gN .u32) Dy w vy y) (lmy : Lm y) (lny : y.length ≤ 1099511627776) :
    Calls Tryz.prog 120 #[vx, vy] w fun e w' => ∃ v, e = .returned v ∧ Sg (gN .u32) (fun b T => w.heap.size ≤ b ∧ T = 89) w' v (digs (val x * val y)) ∧ Ext w w' := by
 have hE : Below w.heap.size w w := Below.refl _ _
 have hx := hx0.old
 clear hx0
 have hy := hy0.old
 clear hy0
 refine calls_of (n := 67) (rs := [.tmp 4]) func120 rfl rfl rfl bL ?_
 refine wset fun F0 hF0 => ?_
 refine wsr (aS (v := (.slice none (0) (0))) rfl (RL.nil (wsr (mV (v := vx) (hF0 0) ?_))))
 obtain ⟨A1, c2, hv3, hc4, hc5⟩ := hx.len
 refine rV (r_len uT40 hv3) (mV (v := vy) (hF0 1) ?_)
 obtain ⟨A6, c7, hv8, hc9, hc10⟩ := hy.len
 refine rV (r_len uT40 hv8) (rV (r_add (k := .i64) (a := ((x.length : Nat) : Int)) (b := ((y.length : Nat) : Int)) (c := ((x.length : Nat) : Int) + ((y.length : Nat) : Int)) rfl rfl (wi64 oM)) ?_)
 have hn16 : (((x.length : Nat) : Int) + ((y.length : Nat) : Int) : Int) = ((x.length + y.length : Nat) : Int) := by omega
 refine rU (h_make1 (n := x.length + y.length) uT40 ty89 rfl (int_eq hn16) (int_eq hn16) oM oM) ?_
 rintro _ w11 ⟨b12, rfl, hs15, hb14, he13⟩
 have he13z := he13.size
 replace hx := hx.tr (Sm.ext he13)
 replace hy := hy.tr (Sm.ext he13)
 replace hE := Below.ext hE oM he13
 replace hb14 := Ar.made (g := (gN .u32)) (z := (0 : Nat)) hb14 rfl
 have hb14l := hb14.lt
 refine aS (v := (.slice (some ⟨b12, 0, none⟩) (x.length + y.length) (x.length + y.length))) rfl (RL.nil (wseq (wsr (aS (v := (iv 0)) rfl (RL.nil ?_)))))
 refine wblock ?_
 refine wset fun F17 hF18 => ?_
 refine wloop (σ := Nat × List Nat) (fun (s : Nat × List Nat) fl wl => match s with | (i, O) => Off (rg 6 3 (rg 15 50 [])) F17 fl ∧ fl 6 = (iv i) ∧ (i ≤ x.length) ∧ (O.length = x.length + y.length) ∧ (Lm O) ∧ (∀ j, i + y.length ≤ j → j < O.length → O.getD j default = 0) ∧ (val (O.take (i + y.length)) = val (x.take i) * val y) ∧ (Sg (gN .u32) (fun b T => Dx b T ∧ b < w.heap.size) wl vx x) ∧ (Sg (gN .u32) (fun b T => Dy b T ∧ b < w.heap.size) wl vy y) ∧ (Ar (gN .u32) wl b12 89 0 O (x.length + y.length)) ∧ (Below w.heap.size w wl) ∧ (w11.heap.size ≤ wl.heap.size)) (fun (s : Nat × List Nat) => match s with | (i, O) => x.length - i) (0, List.replicate (x.length + y.length) 0) ?_ ?_
 ·exact ⟨Off.refl _ _, (hF18 6).trans (rfl), Nat.zero_le _, by simp, Lm.zeros _, (fun j _ hj => by rw [List.getD_eq_getElem?_getD, List.getElem?_replicate]; split <;> rfl), (by rw [List.take_replicate, val_zeros]; simp [val]), hx, hy, hb14, hE, Nat.le_refl _⟩
 clear hx hy hE hb14
 rintro ⟨i, O⟩ f20 w21 ⟨G22, hs23, hi, hOl, hOm, hz, hv, hx, hy, hb14, hE, hz19⟩
 refine wseq (wsr (mV hs23 (mV (v := vx) ((G22 0 rfl).trans ((hF18 0).trans (hF0 0))) (rV (r_len uT40 hv3) (rV (r_lss (k := .i64) (a := (i : Int)) (b := ((x.length : Nat) : Int)) rfl rfl) (RL.nil ?_))))))
 refine wcD (p := (i : Int) < ((x.length : Nat) : Int)) rfl (fun hb24 hb24p => ?_) (fun hb24 hb24p => ?_)
 ·refine wskip ?_
  refine wseq ?_
  refine wblock ?_
  refine wseq ?_
  have hxi := lmx.at (k := i) oM
  refine wregion (aS (v := (.int .u64 0)) rfl (RL.nil (wseq (wsr (aS (v := (iv 0)) rfl (RL.nil ?_))))))
  refine wblock ?_
  refine wset fun F25 hF26 => ?_
  refine wloop (σ := Nat × Nat × List Nat) (fun (s : Nat × Nat × List Nat) fl wl => match s with | (k, c, Q) => Off (rg 7 2 (rg 21 36 [])) F25 fl ∧ fl 8 = (iv k) ∧ fl 7 = (.int .u64 (c : Int)) ∧ (k ≤ y.length) ∧ (Q.length = k) ∧ (Lm Q) ∧ (c < 4294967296) ∧ (val Q + 4294967296 ^ k * c = val ((O.drop i).take k) + x.getD i default * val (y.take k)) ∧ (Sg (gN .u32) (fun b T => Dx b T ∧ b < w.heap.size) wl vx x) ∧ (Sg (gN .u32) (fun b T => Dy b T ∧ b < w.heap.size) wl vy y) ∧ (Ar (gN .u32) wl b12 89 0 (rowN O Q i) (x.length + y.length)) ∧ (Below w.heap.size w wl) ∧ (w21.heap.size ≤ wl.heap.size)) (fun (s : Nat × Nat × List Nat) => match s with | (k, c, Q) => y.length - k) (0, 0, []) ?_ ?_
  ·exact ⟨Off.refl _ _, (hF26 8).trans (rfl), (hF26 7).trans (rfl), Nat.zero_le _, rfl, Lm.nil, by decide, rfl, hx, hy, (by rw [rowN_nil]; exact hb14), hE, Nat.le_refl _⟩
  clear hx hy hE hb14
  rintro ⟨k, c, Q⟩ f28 w29 ⟨G30, hs31, hs32, hk, hQ, hQm, hc, hQv, hx, hy, hb14, hE, hz27⟩
  refine wseq (wsr (mV hs31 (mV (v := vy) ((G30 1 rfl).trans ((hF26 1).trans ((G22 1 rfl).trans ((hF18 1).trans (hF0 1))))) (rV (r_len uT40 hv8) (rV (r_lss (k := .i64) (a := (k : Int)) (b := ((y.length : Nat) : Int)) rfl rfl) (RL.nil ?_))))))
  refine wcD (p := (k : Int) < ((y.length : Nat) : Int)) rfl (fun hb33 hb33p => ?_) (fun hb33 hb33p => ?_)
  ·refine wskip ?_
   refine wseq ?_
   refine wblock ?_
   refine wseq ?_
   have hyk := lmy.at (k := k) oM
   have hok := hOm.at (k := i + k) oM
   have hxy := limb_mul hxi hyk
   obtain ⟨p, hp⟩ : ∃ p, p = x.getD i default * y.getD k default := ⟨_, rfl⟩
   rw [← hp] at hxy
   refine wdraw mixed fun w34 he35 => ?_
   have he35z := he35.size
   replace hx := hx.tr (Sm.ext he35)
   replace hy := hy.tr (Sm.ext he35)
   replace hE := Below.ext hE oM he35
   replace hb14 := hb14.ext he35
   refine aM 0 rfl (v := (.int .u64 (c : Int))) hs32 ?_
   refine aM 1 rfl (v := (.slice (some ⟨b12, 0, none⟩) (x.length + y.length) (x.length + y.length))) ((G30 5 rfl).trans ((hF26 5).trans ((G22 5 rfl).trans (hF18 5)))) ?_
   refine aM 2 rfl (v := (iv i)) ((G30 6 rfl).trans ((hF26 6).trans hs23)) ?_
   refine aM 3 rfl (v := (iv k)) hs31 ?_
   refine ra 4 rfl (fun _ => r_add (k := .i64) (a := (i : Int)) (b := (k : Int)) (c := (i : Int) + (k : Int)) rfl rfl (wi64 oM)) ?_
   refine ra 5 rfl (fun _ => r_indexAddr (i := (i : Int) + (k : Int)) uT40 ty89 rfl rfl oM oM) ?_
   have hc36 := hb14.cell (i := (i : Int) + (k : Int)) (i + k) oM oM
   rw [show (rowN O Q i).getD (i + k) default = O.getD (i + k) default from (rowN_at hQ oM)] at hc36
   refine aR 6 rfl (fun u hu => r_load (v := (.int .u32 (((O.getD (i + k) default : Nat) : Int)))) uT89 ag89 rfl (cell_ext hu hc36)) ?_
   refine ra 7 rfl (fun _ => r_conv (k := .u64) (a := ((O.getD (i + k) default : Nat) : Int)) (c := ((O.getD (i + k) default : Nat) : Int)) uT89 uT73 rfl (wu64 oM)) ?_
   refine aM 8 rfl (v := vx) ((G30 0 rfl).trans ((hF26 0).trans ((G22 0 rfl).trans ((hF18 0).trans (hF0 0))))) ?_
   refine aM 9 rfl (v := (iv i)) ((G30 6 rfl).trans ((hF26 6).trans hs23)) ?_
   obtain ⟨b37, o38, c39, hv40, hc41⟩ := hx.ix (i := (i : Int)) (i) oM oM
   refine ra 10 rfl (fun _ => r_indexAddr (i := (i : Int)) uT40 ty89 hv40 rfl oM oM) ?_
   refine aR 11 rfl (fun u hu => r_load (v := (.int .u32 (((x.getD (i) default : Nat) : Int)))) uT89 ag89 rfl (cell_ext hu hc41)) ?_
   refine ra 12 rfl (fun _ => r_conv (k := .u64) (a := ((x.getD (i) default : Nat) : Int)) (c := ((x.getD (i) default : Nat) : Int)) uT89 uT73 rfl (wu64 oM)) ?_
   refine aM 13 rfl (v := vy) ((G30 1 rfl).trans ((hF26 1).trans ((G22 1 rfl).trans ((hF18 1).trans (hF0 1))))) ?_
   refine aM 14 rfl (v := (iv k)) hs31 ?_
   obtain ⟨b42, o43, c44, hv45, hc46⟩ := hy.ix (i := (k : Int)) (k) oM oM
   refine ra 15 rfl (fun _ => r_indexAddr (i := (k : Int)) uT40 ty89 hv45 rfl oM oM) ?_
   refine aR 16 rfl (fun u hu => r_load (v := (.int .u32 (((y.getD (k) default : Nat) : Int)))) uT89 ag89 rfl (cell_ext hu hc46)) ?_
   refine ra 17 rfl (fun _ => r_conv (k := .u64) (a := ((y.getD (k) default : Nat) : Int)) (c := ((y.getD (k) default : Nat) : Int)) uT89 uT73 rfl (wu64 oM)) ?_
   refine ra 18 rfl (fun _ => r_mul (k := .u64) (a := ((x.getD (i) default : Nat) : Int)) (b := ((y.getD (k) default : Nat) : Int)) (c := ((x.getD i default * y.getD k default : Nat) : Int)) rfl rfl ((wu64 (by rw [← Int.natCast_mul, ← hp]; omega)).trans (by rw [Int.natCast_mul]))) ?_
   refine ra 19 rfl (fun _ => r_add (k := .u64) (a := ((O.getD (i + k) default : Nat) : Int)) (b := ((x.getD i default * y.getD k default : Nat) : Int)) (c := ((O.getD (i + k) default + x.getD i default * y.getD k default : Nat) : Int)) rfl rfl ((wu64 (by rw [← hp]; omega)).trans oM)) ?_
   refine ra 20 rfl (fun _ => r_add (k := .u64) (a := (c : Int)) (b := ((O.getD (i + k) default + x.getD i default * y.getD k default : Nat) : Int)) (c := ((c + (O.getD (i + k) default + x.getD i default * y.getD k default) : Nat) : Int)) rfl rfl ((wu64 (by rw [← hp]; omega)).trans oM)) ?_
   refine aA 21 rfl (v := (.int .u64 (((c + (O.getD (i + k) default + x.getD i default * y.getD k default) : Nat) : Int)))) rfl ?_
   refine RA.done kR ?_
   refine wsr (mV (v := (.slice (some ⟨b12, 0, none⟩) (x.length + y.length) (x.length + y.length))) ((G30 5 rfl).trans ((hF26 5).trans ((G22 5 rfl).trans (hF18 5)))) (mV (v := (iv i)) ((G30 6 rfl).trans ((hF26 6).trans hs23)) (mV hs31 (rV (r_add (k := .i64) (a := (i : Int)) (b := (k : Int)) (c := (i : Int) + (k : Int)) rfl rfl (wi64 oM)) (mV (v := (.int .u64 (((c + (O.getD (i + k) default + x.getD i default * y.getD k default) : Nat) : Int)))) rfl (rV (r_conv (k := .u32) (a := ((c + (O.getD (i + k) default + x.getD i default * y.getD k default) : Nat) : Int)) (c := (((c + (O.getD (i + k) default + x.getD i default * y.getD k default)) % 4294967296 : Nat) : Int)) uT73 uT89 rfl (cu32 _)) (rV (r_indexAddr (i := (i : Int) + (k : Int)) uT40 ty89 rfl rfl oM oM) ?_)))))))
   refine RL.runs rfl rfl (h_set (g := (gN .u32)) (vv := (.int .u32 ((((c + (O.getD (i + k) default + x.getD i default * y.getD k default)) % 4294967296 : Nat) : Int)))) (u := (c + (O.getD (i + k) default + x.getD i default * y.getD k default)) % 4294967296) (i := (i : Int) + (k : Int)) ty89 rfl rfl rfl rfl rfl hb14 (i + k) oM oM) ?_
   rintro w47 ⟨ha48, hx49⟩
   have hx49z := hx49.size
   replace hx := hx.tr (hb14.sm hx49 (by (intro h; have := h.2; omega)))
   replace hy := hy.tr (hb14.sm hx49 (by (intro h; have := h.2; omega)))
   replace hE := Below.exc hE oM hx49 oM
   replace hb14 := ha48
   refine RL.nil (wregion (mV (v := (.int .u64 (((c + (O.getD (i + k) default + x.getD i default * y.getD k default) : Nat) : Int)))) rfl (rV (r_shr (k := .u64) (a := ((c + (O.getD (i + k) default + x.getD i default * y.getD k default) : Nat) : Int)) (b := 32) (c := (((c + (O.getD (i + k) default + x.getD i default * y.getD k default)) / 4294967296 : Nat) : Int)) rfl rfl dC (shr32 _)) (aS (v := (.int .u64 ((((c + (O.getD (i + k) default + x.getD i default * y.getD k default)) / 4294967296 : Nat) : Int)))) rfl (RL.nil (wregion (mV hs31 (rV (r_add (k := .i64) (a := (k : Int)) (b := 1) (c := (k : Int) + 1) rfl rfl (wi64 oM)) (aS (v := (iv ((k : Int) + 1))) rfl (RL.nil ?_))))))))))
   refine ⟨(k + 1, (c + (O.getD (i + k) default + x.getD i default * y.getD k default)) / 4294967296, Q ++ [(c + (O.getD (i + k) default + x.getD i default * y.getD k default)) % 4294967296]), ⟨?_, ?_, ?_, ?_, ?_, ?_, ?_, ?_, ?_, ?_, ?_, ?_, ?_⟩, ?_⟩
   · exact (by repeat (first | exact G30 | refine Off.st ?_ dC _ | refine Off.via G22 dC ?_ | refine Off.eq hF18 ?_))
   · first | rfl | exact int_eq oM | exact bool_eq (by simp)
   · first | rfl | exact int_eq oM | exact bool_eq (by simp)
   · omega
   · rw [List.length_append, hQ]; rfl
   · exact hQm.snoc (Nat.mod_lt _ dC)
   · omega
   · exact mul_row_step hQ oM oM hQv
   · exact hx
   · exact hy
   · rw [rowN_set hQ oM] at hb14; exact hb14
   · exact hE
   · omega
   (try dsimp only)
   omega
  refine wexit ?_
  have hky : k = y.length := by omega
  have hQe : val Q + 4294967296 ^ y.length * c = val ((O.drop i).take y.length) + x.getD i default * val y := by rw [hky, List.take_of_length_le (Nat.le_refl y.length)] at hQv; exact hQv
  refine wregion (mV (v := (.slice (some ⟨b12, 0, none⟩) (x.length + y.length) (x.length + y.length))) ((G30 5 rfl).trans ((hF26 5).trans ((G22 5 rfl).trans (hF18 5)))) (mV (v := (iv i)) ((G30 6 rfl).trans ((hF26 6).trans hs23)) (mV (v := vy) ((G30 1 rfl).trans ((hF26 1).trans ((G22 1 rfl).trans ((hF18 1).trans (hF0 1))))) (rV (r_len uT40 hv8) (rV (r_add (k := .i64) (a := (i : Int)) (b := ((y.length : Nat) : Int)) (c := (i : Int) + ((y.length : Nat) : Int)) rfl rfl (wi64 oM)) (mV hs32 (rV (r_conv (k := .u32) (a := (c : Int)) (c := ((c % 4294967296 : Nat) : Int)) uT73 uT89 rfl (cu32 _)) (rV (r_indexAddr (i := (i : Int) + ((y.length : Nat) : Int)) uT40 ty89 rfl rfl oM oM) ?_))))))))
  refine RL.runs rfl rfl (h_set (g := (gN .u32)) (vv := (.int .u32 (((c % 4294967296 : Nat) : Int)))) (u := c) (i := (i : Int) + ((y.length : Nat) : Int)) ty89 rfl rfl (int_eq oM) rfl rfl hb14 (i + y.length) oM oM) ?_
  rintro w50 ⟨ha51, hx52⟩
  have hx52z := hx52.size
  replace hx := hx.tr (hb14.sm hx52 (by (intro h; have := h.2; omega)))
  replace hy := hy.tr (hb14.sm hx52 (by (intro h; have := h.2; omega)))
  replace hE := Below.exc hE oM hx52 oM
  replace hb14 := ha51
  refine RL.nil (wregion (mV (v := (iv i)) ((G30 6 rfl).trans ((hF26 6).trans hs23)) (rV (r_add (k := .i64) (a := (i : Int)) (b := 1) (c := (i : Int) + 1) rfl rfl (wi64 oM)) (aS (v := (iv ((i : Int) + 1))) rfl (RL.nil ?_)))))
  refine ⟨(i + 1, rowN O (Q ++ [c]) i), ⟨?_, ?_, ?_, ?_, ?_, ?_, ?_, ?_, ?_, ?_, ?_, ?_⟩, ?_⟩
  · exact (by repeat (first | exact G22 | refine Off.st ?_ dC _ | refine Off.via G30 dC ?_ | refine Off.eq hF26 ?_))
  · first | rfl | exact int_eq oM | exact bool_eq (by simp)
  · omega
  · rw [length_rowN (by simp; omega)]; exact hOl
  · exact rowN_lm hOm (hQm.snoc oM)
  · exact rowN_zeros (by simp; omega) oM hz
  · exact mul_row (n := 0) oM oM hOl hv hQe
  · exact hx
  · exact hy
  · rw [rowN_set (k := y.length) oM oM] at hb14; exact hb14
  · exact hE
  · omega
  (try dsimp only)
  omega
 refine wexit ?_
 refine wseq ?_
 have hix : i = x.length := by omega
 have hfin : val O = val x * val y := by rw [hix, List.take_of_length_le oM, List.take_of_length_le (Nat.le_refl _)] at hv; exact hv
 refine wregion (mV (v := (.slice (some ⟨b12, 0, none⟩) (x.length + y.length) (x.length + y.length))) ((G22 5 rfl).trans (hF18 5)) ?_)
 refine cL ent112 (r01_trim (hb14.sc (D := fun _ _ => True) (Nat.le_refl _) oM trivial) (by assumption) oS) rfl ?_
 rintro vr55 w53 ⟨hr56, he54⟩
 have he54z := he54.size
 replace hx := hx.tr (Sm.ext he54)
 replace hy := hy.tr (Sm.ext he54)
 replace hE := Below.ext hE oM he54
 replace hb14 := hb14.ext he54
 have hlt57 : (digs (val O)).length ≤ O.length := len_le_of (by assumption)
 refine aS (v := vr55) rfl (RL.nil ?_)
 refine wret ?_
 refine ⟨[vr55], ⟨rfl, trivial⟩, ?_⟩
 have hres := hr56
 rw [hfin] at hres
 exact ⟨hres.mono (fun b T h => by first | exact ⟨by have := h.1; omega, h.2⟩ | exact ⟨by have := h.1; omega, h.2.1⟩ | exact ⟨by have := h.1; omega, h.2, by have := h.1; omega⟩ | exact ⟨by have := h.1; omega, h.2.1, by have := h.1; omega⟩ | exact ⟨by have := h.1; omega, h.2.1, h.2.2⟩), hE⟩
end Go.Proofs.YtelbjmhhbeijkaaGreat
namespace Go.Vm
def sg (b : Bool) (n : Nat) : Int := match b with
  | true => -(n : Int)
  | false => (n : Int)
theorem sg_t (n : Nat) : sg true n = -(n : Int) := rfl
theorem sg_f (n : Nat) : sg false n = (n : Int) := rfl
theorem sg_abs (b : Bool) (n : Nat) : (sg b n).natAbs = n := by cases b <;> simp [sg]
theorem sg_self (z : Int) : sg (decide (z < 0)) z.natAbs = z := by
  by_cases h : z < 0
  · rw [decide_eq_true h, sg_t]; omega
  rw [decide_eq_false h, sg_f]; omega
theorem sg_canon (z : Int) : sg (decide (z < 0)) (val (digs z.natAbs)) = z := by rw [val_digs, sg_self]
theorem sg_neg (b : Bool) (n : Nat) : sg (!b) n = -sg b n := by cases b <;> simp [sg]
theorem sg_add (b : Bool) (m n : Nat) : sg b (m + n) = sg b m + sg b n := by cases b <;> simp only [sg] <;> omega
theorem sg_zero (b : Bool) : sg b 0 = 0 := by cases b <;> rfl
theorem sg_mul (a b : Bool) (m n : Nat) : sg (a != b) (m * n) = sg a m * sg b n := by cases a <;> cases b <;> simp [sg, Int.neg_mul, Int.mul_neg]
theorem sg_eq_zero {b : Bool} {n : Nat} : sg b n = 0 ↔ n = 0 := by cases b <;> simp only [sg] <;> omega
theorem sg_lt {b : Bool} {n : Nat} : sg b n < 0 ↔ b = true ∧ 0 < n := by
  cases b
  · simp only [sg, Bool.false_eq_true, false_and, iff_false]; omega
  simp only [sg, true_and]; omega
theorem il_le {b : Bool} {x : List Nat} {z : Int} (hx : Lm x) (h : sg b (val x) = z) : (digs z.natAbs).length ≤ x.length := by
  rw [← h, sg_abs]; exact len_le_of hx
theorem il_add (a b : Int) : (digs (a + b).natAbs).length ≤ max (digs a.natAbs).length (digs b.natAbs).length + 1 :=
  Nat.le_trans (len_mono (Int.natAbs_add_le a b)) (len_add _ _)
theorem il_mul (a b : Int) : (digs (a * b).natAbs).length ≤ (digs a.natAbs).length + (digs b.natAbs).length := by
  rw [Int.natAbs_mul]; exact len_mul _ _
def ratOf (b : Bool) (n d : Nat) : Rat := Rat.divInt (sg b n) (d : Int)
theorem ratOf_self (q : Rat) : ratOf (decide (q.num < 0)) q.num.natAbs q.den = q := by unfold ratOf; rw [sg_self, Rat.num_divInt_den]
theorem ratOf_canon (q : Rat) : ratOf (decide (q.num < 0)) (val (digs q.num.natAbs)) (val (digs q.den)) = q := by rw [val_digs, val_digs, ratOf_self]
theorem divInt_le {a b : Int} : (Rat.divInt a b).num.natAbs ≤ a.natAbs := by
  rw [Rat.num_divInt]
  refine Nat.le_trans (Int.natAbs_ediv_le_natAbs _ _) ?_
  rw [Int.natAbs_mul]
  have : b.sign.natAbs ≤ 1 := by
    rcases Int.lt_trichotomy b 0 with h | h | h
    · rw [Int.sign_eq_neg_one_of_neg h]; decide
    · rw [h]; decide
    rw [Int.sign_eq_one_of_pos h]; decide
  calc b.sign.natAbs * a.natAbs ≤ 1 * a.natAbs := Nat.mul_le_mul_right _ this
    _ = a.natAbs := Nat.one_mul _
theorem divInt_den_le {a b : Int} : (Rat.divInt a b).den ≤ b.natAbs ∨ (Rat.divInt a b).den = 1 := by
  rw [Rat.den_divInt]
  split
  · exact .inr rfl
  exact .inl (Nat.div_le_self _ _)
theorem len_one : (digs 1).length = 1 := rfl
theorem rl_num {a b : Int} : (digs (Rat.divInt a b).num.natAbs).length ≤ (digs a.natAbs).length := len_mono divInt_le
theorem rl_den {a b : Int} : (digs (Rat.divInt a b).den).length ≤ max (digs b.natAbs).length 1 := by
  rcases divInt_den_le (a := a) (b := b) with h | h
  · have h2 : (digs (Rat.divInt a b).den).length ≤ (digs b.natAbs).length := len_mono h
    omega
  rw [h, len_one]; omega
end Go.Vm
namespace Go.Vm
theorem mk_t {s : Bool} {n : Nat} {z : Int} (h : sg s n = z) (hs : s = true) : decide ((0 : Int) < (((digs n).length : Nat) : Int)) = decide (z < 0) := by
  subst hs
  rw [← h]
  have := len_zero (n := n)
  unfold len at this
  refine decide_eq_decide.2 ?_
  rw [sg_t]
  omega
theorem mk_f {s : Bool} {n : Nat} {z : Int} (h : sg s n = z) (hs : s = false) : false = decide (z < 0) := by
  subst hs
  rw [← h, sg_f]
  exact (decide_eq_false oM).symm
theorem mk_abs {s : Bool} {n : Nat} {z : Int} (h : sg s n = z) : digs n = digs z.natAbs := by rw [← h, sg_abs]
theorem dl_val {x : List Nat} (h : Lm x) : (digs (val x)).length ≤ x.length := len_le_of h
theorem dl_add (a b : Nat) : (digs (a + b)).length ≤ max (digs a).length (digs b).length + 1 := len_add a b
theorem dl_mul (a b : Nat) : (digs (a * b)).length ≤ (digs a).length + (digs b).length := len_mul a b
theorem dl_sub (a b : Nat) : (digs (a - b)).length ≤ (digs a).length := len_mono (Nat.sub_le a b)
theorem dl_div (a b : Nat) : (digs (a / b)).length ≤ (digs a).length := len_mono (Nat.div_le_self a b)
theorem dl_modZ (a b : Nat) : (digs (modZ a b)).length ≤ (digs b).length := by
  unfold modZ
  split
  · exact Nat.zero_le _
  exact len_mono (Nat.le_of_lt (Nat.mod_lt _ oM))
theorem dl_modZ' (a b : Nat) : (digs (modZ a b)).length ≤ (digs a).length := by
  unfold modZ
  split
  · exact Nat.zero_le _
  exact len_mono (Nat.mod_le _ _)
theorem dl_gcd (a b : Nat) : (digs (Nat.gcd a b)).length ≤ max (digs a).length (digs b).length := by
  rcases Nat.eq_zero_or_pos a with h | h
  · rw [h, Nat.gcd_zero_left]; omega
  have : (digs (Nat.gcd a b)).length ≤ (digs a).length := len_mono (Nat.le_of_dvd h (Nat.gcd_dvd_left a b))
  omega
end Go.Vm
namespace Go.Vm
theorem dl_u64 {n : Nat} (h : n < 18446744073709551616) : (digs n).length ≤ 2 := len_u64.1 h
theorem idiv_law {sx sy : Bool} {x y : Nat} {zx zy Q R : Int} (ex : sg sx x = zx) (ey : sg sy y = zy) (hy : y ≠ 0) (hQ : sg (sx != sy) (x / y) = Q) (hR : sg sx (x % y) = R) :
    (R < 0 → (sy = true → zx / zy = Q + 1) ∧ (sy = false → zx / zy = Q - 1) ∧ zx % zy = R + (zy.natAbs : Int)) ∧ (¬ R < 0 → zx / zy = Q ∧ zx % zy = R) := by
  have hm := Nat.mod_lt x (Nat.pos_of_ne_zero hy)
  have hd := Nat.div_add_mod x y
  have hid : R + zy * Q = zx := by
    rw [← hR, ← hQ, ← ey, ← ex, ← sg_mul]
    have e : (sy != (sx != sy)) = sx := by cases sx <;> cases sy <;> rfl
    rw [e, ← sg_add]
    congr 1
    omega
  have hza : zy.natAbs = y := by rw [← ey, sg_abs]
  have hRa : R.natAbs = x % y := by rw [← hR, sg_abs]
  have key : ∀ q r : Int, r + zy * q = zx → 0 ≤ r → r < zy.natAbs → zx / zy = q ∧ zx % zy = r := by
    intro q r h1 h2 h3
    by_cases h0 : zy < 0
    · exact (Int.ediv_emod_unique' h0).2 ⟨h1, h2, by omega⟩
    exact (Int.ediv_emod_unique (show 0 < zy by omega)).2 ⟨h1, h2, by omega⟩
  constructor
  · intro hneg
    refine ⟨fun hs => ?_, fun hs => ?_, ?_⟩
    · subst hs
      rw [sg_t] at ey
      exact (key (Q + 1) (R - zy) (by rw [Int.mul_add]; omega) oM oM).1
    · subst hs
      rw [sg_f] at ey
      exact (key (Q - 1) (R + zy) (by rw [Int.mul_sub]; omega) oM oM).1
    cases sy
    · rw [sg_f] at ey
      rw [(key (Q - 1) (R + zy) (by rw [Int.mul_sub]; omega) oM oM).2]
      omega
    rw [sg_t] at ey
    rw [(key (Q + 1) (R - zy) (by rw [Int.mul_add]; omega) oM oM).2]
    omega
  intro hn
  exact key Q R hid oM oM
def modI (a b : Int) : Int := if b = 0 then 0 else a % b
theorem il_modI (a b : Int) : (digs (modI a b).natAbs).length ≤ (digs b.natAbs).length := by
  unfold modI
  split
  · exact Nat.zero_le _
  rename_i h
  have h1 := Int.emod_nonneg a h
  have h2 := Int.emod_lt a h
  exact len_mono oM
theorem make_law {zx zy : Int} (h : zy ≠ 0) : (zy / ((Int.gcd zx zy : Nat) : Int) < 0 → (Rat.divInt zx zy).num = -(zx / ((Int.gcd zx zy : Nat) : Int)) ∧ (Rat.divInt zx zy).den = (-(zy / ((Int.gcd zx zy : Nat) : Int))).natAbs) ∧
    (¬ zy / ((Int.gcd zx zy : Nat) : Int) < 0 → (Rat.divInt zx zy).num = zx / ((Int.gcd zx zy : Nat) : Int) ∧ (Rat.divInt zx zy).den = (zy / ((Int.gcd zx zy : Nat) : Int)).natAbs) := by
  have hg : 0 < Int.gcd zx zy := Int.gcd_pos_of_ne_zero_right _ h
  have hd1 : ((Int.gcd zx zy : Nat) : Int) ∣ zx := Int.gcd_dvd_left ..
  have hd2 : ((Int.gcd zx zy : Nat) : Int) ∣ zy := Int.gcd_dvd_right ..
  rw [Rat.num_divInt, Rat.den_divInt, if_neg h, Int.gcd_comm zy zx]
  obtain ⟨a, ha⟩ := hd1
  obtain ⟨b, hb⟩ := hd2
  generalize Int.gcd zx zy = g at *
  have hg' : (g : Int) ≠ 0 := by omega
  have e1 : zx / (g : Int) = a := by rw [ha, Int.mul_ediv_cancel_left _ hg']
  have e2 : zy / (g : Int) = b := by rw [hb, Int.mul_ediv_cancel_left _ hg']
  have e3 : zy.natAbs / g = b.natAbs := by rw [hb, Int.natAbs_mul, Int.natAbs_natCast, Nat.mul_div_cancel_left _ hg]
  rw [e1, e2, e3]
  constructor
  · intro hn
    have hz : zy < 0 := by rw [hb]; exact Int.mul_neg_of_pos_of_neg oM hn
    rw [Int.sign_eq_neg_one_of_neg hz]
    refine ⟨?_, by rw [Int.natAbs_neg]⟩
    rw [ha, show (-1 : Int) * ((g : Int) * a) = (g : Int) * (-a) by rw [Int.neg_one_mul, Int.mul_neg], Int.mul_ediv_cancel_left _ hg']
  intro hn
  have hb0 : 0 < b := by
    rcases Int.lt_trichotomy b 0 with h1 | h1 | h1
    · exact absurd h1 hn
    · rw [h1, Int.mul_zero] at hb; exact absurd hb h
    exact h1
  have hz : 0 < zy := by rw [hb]; exact Int.mul_pos oM hb0
  rw [Int.sign_eq_one_of_pos hz, Int.one_mul, ha, Int.mul_ediv_cancel_left _ hg']
  exact ⟨rfl, rfl⟩
theorem divInt_one (z : Int) : (Rat.divInt z 1).num = z ∧ (Rat.divInt z 1).den = 1 := by
  rw [Rat.num_divInt, Rat.den_divInt]
  simp
theorem radd_law (a b : Rat) : Rat.divInt (a.num * (b.den : Int) + b.num * (a.den : Int)) ((a.den : Int) * (b.den : Int)) = a + b := by
  have h1 : (a.den : Int) ≠ 0 := by have := a.den_nz; omega
  have h2 : (b.den : Int) ≠ 0 := by have := b.den_nz; omega
  rw [← Rat.divInt_add_divInt _ _ h1 h2, Rat.num_divInt_den, Rat.num_divInt_den]
theorem rmul_law (a b : Rat) : Rat.divInt (a.num * b.num) ((a.den : Int) * (b.den : Int)) = a * b := by
  rw [← Rat.divInt_mul_divInt, Rat.num_divInt_den, Rat.num_divInt_den]
theorem int_law (z : Int) : Rat.divInt z 1 = (z : Rat) := by
  apply Rat.ext
  · rw [(divInt_one z).1]; rfl
  rw [(divInt_one z).2]; rfl
theorem rl_of {b : Bool} {x d : List Nat} {q : Rat} (hx : Lm x) (hd : Lm d) (h : ratOf b (val x) (val d) = q) : (digs q.num.natAbs).length ≤ x.length ∧ (digs q.den).length ≤ d.length + 1 := by
  rw [← h]
  unfold ratOf
  have h1 := rl_num (a := sg b (val x)) (b := ((val d : Nat) : Int))
  have h2 := rl_den (a := sg b (val x)) (b := ((val d : Nat) : Int))
  rw [sg_abs] at h1
  rw [Int.natAbs_natCast] at h2
  have h3 := dl_val hx
  have h4 := dl_val hd
  omega
theorem den_one (q : Rat) : 1 ≤ (digs q.den).length := by
  have h := len_zero (n := q.den)
  unfold len at h
  have := q.den_nz
  omega
end Go.Vm
namespace Go.Vm
end Go.Vm
namespace Go.Vm
end Go.Vm
namespace Go.Vm
theorem sub_len {α : Type} [DecidableEq α] : ∀ {a b : List α}, a.Nodup → (∀ x ∈ a, x ∈ b) → a.length ≤ b.length
  | [], _, _, _ => Nat.zero_le _
  | x :: t, b, hn, hs => by
    have hx : x ∈ b := hs x (List.mem_cons_self ..)
    have hn' := List.nodup_cons.1 hn
    have h := sub_len (a := t) (b := b.erase x) hn'.2 fun y hy => (List.mem_erase_of_ne (fun e => hn'.1 (by rw [← e]; exact hy))).2 (hs y (List.mem_cons_of_mem _ hy))
    rw [List.length_erase_of_mem hx] at h
    have : 0 < b.length := List.length_pos_of_mem hx
    simp only [List.length_cons]
    omega
def bef (P : Nat → Rat) (j i : Nat) : Prop := P i < P j ∨ (P j = P i ∧ j < i)
instance (P : Nat → Rat) (j i : Nat) : Decidable (bef P j i) := inferInstanceAs (Decidable (_ ∨ _))
def Seg (P : Nat → Rat) (n : Nat) (M : List Nat) : Prop := M.Nodup ∧ (∀ i ∈ M, i < n) ∧ ∀ i ∈ M, ∀ j, j < n → j ∉ M → bef P i j
theorem Seg.nil (P : Nat → Rat) (n : Nat) : Seg P n [] := ⟨List.nodup_nil, by simp, by simp⟩
theorem Seg.ex {P : Nat → Rat} {n : Nat} {M : List Nat} (_h : Seg P n M) (hl : M.length < n) : ∃ i, i < n ∧ i ∉ M := by
  by_cases hx : ∃ i, i < n ∧ i ∉ M
  · exact hx
  exfalso
  have := sub_len (a := List.range n) (b := M) List.nodup_range fun x hx' => by
    by_cases hm : x ∈ M
    · exact hm
    exact absurd ⟨x, List.mem_range.1 hx', hm⟩ hx
  rw [List.length_range] at this
  omega
theorem Seg.snoc {P : Nat → Rat} {n b : Nat} {M : List Nat} (h : Seg P n M) (hb : b < n) (hm : b ∉ M) (hf : ∀ j, j < n → j ∉ M → j ≠ b → bef P b j) : Seg P n (M ++ [b]) := by
  refine ⟨?_, ?_, ?_⟩
  · rw [List.nodup_append]
    refine ⟨h.1, by simp, fun a ha c hc => ?_⟩
    rw [List.mem_singleton] at hc
    intro e; subst e; subst hc; exact hm ha
  · intro i hi
    rcases List.mem_append.1 hi with hi | hi
    · exact h.2.1 i hi
    rw [List.mem_singleton] at hi; omega
  intro i hi j hj hn
  have hn1 : j ∉ M := fun e => hn (List.mem_append.2 (.inl e))
  have hn2 : j ≠ b := fun e => hn (List.mem_append.2 (.inr (by rw [e]; simp)))
  rcases List.mem_append.1 hi with hi | hi
  · exact h.2.2 i hi j hj hn1
  rw [List.mem_singleton] at hi; subst hi; exact hf j hj hn1 hn2
def Best (P : Nat → Rat) (M : List Nat) (k : Nat) (b : Int) : Prop := (b = -1 ∧ ∀ j, j < k → j ∈ M) ∨ ∃ c : Nat, b = (c : Int) ∧ c < k ∧ c ∉ M ∧ ∀ j, j < k → j ∉ M → j ≠ c → bef P c j
theorem Best.zero (P : Nat → Rat) (M : List Nat) : Best P M 0 (-1) := .inl ⟨rfl, fun _ h => absurd h (Nat.not_lt_zero _)⟩
theorem Best.skip {P : Nat → Rat} {M : List Nat} {k : Nat} {b : Int} (h : Best P M k b) (hk : k ∈ M) : Best P M (k + 1) b := by
  rcases h with ⟨h1, h2⟩ | ⟨c, h1, h2, h3, h4⟩
  · exact .inl ⟨h1, fun j hj => by rcases Nat.lt_or_eq_of_le (Nat.le_of_lt_succ hj) with h | rfl; exact h2 j h; exact hk⟩
  exact .inr ⟨c, h1, by omega, h3, fun j hj hn hc => by
    rcases Nat.lt_or_eq_of_le (Nat.le_of_lt_succ hj) with h | rfl
    · exact h4 j h hn hc
    exact absurd hk hn⟩
theorem Best.take {P : Nat → Rat} {M : List Nat} {k : Nat} {b : Int} (h : Best P M k b) (hk : k ∉ M) (hp : b = -1 ∨ P b.toNat < P k) : Best P M (k + 1) (k : Int) := by
  refine .inr ⟨k, rfl, by omega, hk, fun j hj hn hc => ?_⟩
  have hj' : j < k := by omega
  rcases h with ⟨h1, h2⟩ | ⟨c, h1, h2, h3, h4⟩
  · exact absurd (h2 j hj') hn
  have hp' : P c < P k := by
    rcases hp with hp | hp
    · omega
    rw [h1, Int.toNat_natCast] at hp; exact hp
  by_cases e : j = c
  · subst e; exact .inl hp'
  have := h4 j hj' hn e
  unfold bef at *; grind
theorem Best.fin {P : Nat → Rat} {M : List Nat} {n : Nat} {b : Int} (h : Best P M n b) (hs : Seg P n M) (hl : M.length < n) : ∃ c : Nat, b = (c : Int) ∧ c < n ∧ c ∉ M ∧ Seg P n (M ++ [c]) := by
  obtain ⟨i, hi, hm⟩ := hs.ex hl
  rcases h with ⟨h1, h2⟩ | ⟨c, h1, h2, h3, h4⟩
  · exact absurd (h2 i hi) hm
  exact ⟨c, h1, h2, h3, hs.snoc h2 h3 h4⟩
def fr (q : Rat) : Rat := q - (q.floor : Rat)
end Go.Vm
namespace Go.Vm
def byR {α : Type} (f : Nat → α) (n : Nat) : List α := (List.range n).map f
theorem length_byR {α : Type} (f : Nat → α) (n : Nat) : (byR f n).length = n := by simp [byR]
section
variable {α : Type} [Inhabited α] {f : Nat → α} {z : α} {n k : Nat}
theorem byR_at {j : Nat} (h : j < n) : (byR f n).getD j default = f j := by simp [byR, h]
end
end Go.Vm
namespace Go.Vg
open Go Go.RowKit Go.Vm
abbrev RC : Type := Bool × Value × Value
abbrev ratC : RC → List Value := fun c => [.bool c.1, c.2.1, c.2.2]
def Rz (L : Nat) (D : Nat → TypeId → Prop) (w : World) (c : RC) (q : Rat) : Prop :=
  ∃ x d, Sg (gN .u32) D w c.2.1 x ∧ Lm x ∧ x.length ≤ L ∧ Sg (gN .u32) D w c.2.2 d ∧ Lm d ∧ d.length ≤ L ∧ ratOf c.1 (val x) (val d) = q
section
variable {L L' : Nat} {D D' : Nat → TypeId → Prop} {w w' : World} {c : RC} {q : Rat} {v : Value} {qs : List Rat}
theorem Rz.tr (h : Rz L D w c q) (hs : Sm D w w') : Rz L D w' c q := by
  obtain ⟨x, d, h1, h2, h3, h4, h5⟩ := h
  exact ⟨x, d, h1.tr hs, h2, h3, h4.tr hs, h5⟩
theorem Rz.mono (h : Rz L D w c q) (hD : ∀ b T, D b T → D' b T) : Rz L D' w c q := by
  obtain ⟨x, d, h1, h2, h3, h4, h5⟩ := h
  exact ⟨x, d, h1.mono hD, h2, h3, h4.mono hD, h5⟩
theorem Rz.wide (h : Rz L D w c q) (hL : L ≤ L') : Rz L' D w c q := by
  obtain ⟨x, d, h1, h2, h3, h4, h5, h6, h7⟩ := h
  exact ⟨x, d, h1, h2, by omega, h4, h5, by omega, h7⟩
theorem Rz.old (h : Rz L D w c q) : Rz L (fun b T => D b T ∧ b < w.heap.size) w c q := by
  obtain ⟨x, d, h1, h2, h3, h4, h5⟩ := h
  exact ⟨x, d, h1.old, h2, h3, h4.old, h5⟩
theorem Rz.of {s : Bool} {vn vd : Value} {x d : List Nat} (h1 : Sg (gN .u32) D w vn x) (m1 : Lm x) (l1 : x.length ≤ L) (h2 : Sg (gN .u32) D w vd d) (m2 : Lm d) (l2 : d.length ≤ L) (e : ratOf s (val x) (val d) = q) : Rz L D w (s, vn, vd) q :=
  ⟨x, d, h1, m1, l1, h2, m2, l2, e⟩
def Rs (L : Nat) (D : Nat → TypeId → Prop) (w : World) (v : Value) (qs : List Rat) : Prop :=
  ∃ cs : List RC, Ss ratC 3 D w v cs ∧ cs.length = qs.length ∧ ∀ k, k < qs.length → Rz L D w (cs.getD k default) (qs.getD k default)
theorem Rs.tr (h : Rs L D w v qs) (hs : Sm D w w') : Rs L D w' v qs := by
  obtain ⟨cs, h1, h2, h3⟩ := h
  exact ⟨cs, h1.tr hs, h2, fun k hk => (h3 k hk).tr hs⟩
theorem Rs.mono (h : Rs L D w v qs) (hD : ∀ b T, D b T → D' b T) : Rs L D' w v qs := by
  obtain ⟨cs, h1, h2, h3⟩ := h
  exact ⟨cs, h1.mono hD, h2, fun k hk => (h3 k hk).mono hD⟩
theorem Rs.old (h : Rs L D w v qs) : Rs L (fun b T => D b T ∧ b < w.heap.size) w v qs := by
  obtain ⟨cs, h1, h2, h3⟩ := h
  exact ⟨cs, h1.old, h2, fun k hk => (h3 k hk).old⟩
theorem Rs.len (h : Rs L D w v qs) : ∃ A c, v = .slice A qs.length c ∧ qs.length ≤ c ∧ c ≤ 9223372036854775807 := by
  obtain ⟨cs, h1, h2, h3⟩ := h
  rw [← h2]
  exact h1.len
theorem Rs.one (h : Rs L D w v qs) : v.oneCell' = true := by
  obtain ⟨cs, h1, h2, h3⟩ := h
  exact h1.one
theorem Rs.ix (h : Rs L D w v qs) {i : Int} (k : Nat) (hi : i = (k : Int)) (hk : k < qs.length) :
    ∃ bb o cap s vn vd x d, v = .slice (some ⟨bb, o, none⟩) qs.length cap ∧ (∀ j u, [Value.bool s, vn, vd][j]? = some u → w.cell? ⟨bb, o + i.toNat * 3 + j, none⟩ = some u) ∧
      Sg (gN .u32) D w vn x ∧ Lm x ∧ x.length ≤ L ∧ Sg (gN .u32) D w vd d ∧ Lm d ∧ d.length ≤ L ∧ ratOf s (val x) (val d) = qs.getD k default := by
  obtain ⟨cs, h1, h2, h3⟩ := h
  obtain ⟨bb, o, cap, hv, hc⟩ := h1.ix k hi oM
  obtain ⟨x, d, g⟩ := h3 k hk
  exact ⟨bb, o, cap, _, _, _, x, d, by rw [hv, h2], hc, g⟩
end
def Aa {α : Type} (c : α → List Value) (size : Nat) (w : World) (b : Nat) (T : TypeId) (xs : List α) (n : Nat) : Prop := (∀ x, (c x).length = size) ∧ Bk w b T (xs.map c).flatten ∧ xs.length = n
section
variable {α : Type} {c : α → List Value} {size : Nat} {w w' : World} {b n : Nat} {T : TypeId} {xs : List α}
theorem Aa.ext (h : Aa c size w b T xs n) (e : Ext w w') : Aa c size w' b T xs n := ⟨h.1, h.2.1.ext e, h.2.2⟩
theorem Aa.exc {b0 : Nat} (h : Aa c size w b T xs n) (e : Exc b0 w w') (hne : b ≠ b0) : Aa c size w' b T xs n := ⟨h.1, h.2.1.exc e hne, h.2.2⟩
theorem Aa.lt (h : Aa c size w b T xs n) : b < w.heap.size := h.2.1.lt
theorem Aa.cell [Inhabited α] (h : Aa c size w b T xs n) {i : Int} (k : Nat) (hi : i = (k : Int)) (hk : k < n) : ∀ j u, (c (xs.getD k default))[j]? = some u → w.cell? ⟨b, 0 + i.toNat * size + j, none⟩ = some u := fun j u hj => by
  subst hi
  have hx : xs[k]? = some (xs.getD k default) := by simp [show k < xs.length by rw [h.2.2]; exact hk]
  refine h.2.1.cell ?_
  rw [Nat.zero_add, Int.toNat_natCast]
  exact flat_at (fun x _ => h.1 x) hx hj
theorem flat_len (hc : ∀ x, (c x).length = size) (xs : List α) : (xs.map c).flatten.length = xs.length * size := by
  induction xs with
  | nil => simp
  | cons x xs ih => simp [hc x, ih, Nat.succ_mul]; omega
theorem flat_set (hc : ∀ x, (c x).length = size) : ∀ (xs : List α) (k : Nat) (u : α), k < xs.length → spl (xs.map c).flatten (k * size) (c u) = ((xs.set k u).map c).flatten
  | [], k, u, h => by simp at h
  | x :: xs, 0, u, _ => by
    unfold spl
    have h1 := hc x
    have h2 := hc u
    simp only [Nat.zero_mul, List.take_zero, List.nil_append, Nat.zero_add, List.map_cons, List.flatten_cons, List.set_cons_zero]
    rw [List.drop_append, List.drop_of_length_le oM, show (c u).length - (c x).length = 0 by omega]
    simp
  | x :: xs, k + 1, u, h => by
    have ih := flat_set hc xs k u (by simpa using h)
    unfold spl at ih ⊢
    have h1 := hc x
    have h2 := hc u
    simp only [List.map_cons, List.flatten_cons, List.set_cons_succ]
    rw [← ih, Nat.succ_mul, List.take_append, List.drop_append]
    rw [List.take_of_length_le oM, List.drop_of_length_le (show (c x).length ≤ k * size + size + (c u).length by omega)]
    rw [show k * size + size - (c x).length = k * size by omega, show k * size + size + (c u).length - (c x).length = k * size + (c u).length by omega]
    simp
theorem Aa.made {z : α} {zs : List Value} (hc : ∀ x, (c x).length = size) (hb : Bk w b T (List.replicate n zs).flatten) (hz : c z = zs) : Aa c size w b T (List.replicate n z) n := ⟨hc, by rw [List.map_replicate, hz]; exact hb, by simp⟩
theorem Aa.ss {D : Nat → TypeId → Prop} (h : Aa c size w b T xs n) (hs : 0 < size) (hd : D b T) (hm : n ≤ 9223372036854775807) : Ss c size D w (.slice (some ⟨b, 0, none⟩) n n) xs :=
  h.2.1.ss hd rfl h.2.2.symm hs (fun x _ => h.1 x) hm
end
section
variable {P : Program} {f : Nat → Value} {w : World} {dst : Option Tmp} {ty : TypeId} {pos : String} {aft : Array Edge} {gd : Option (Nat × Bool)} {x y z : Operand} {t e : TypeId}
theorem h_setA {α : Type} {c : α → List Value} {size : Nat} {T : TypeId} {b n bytes : Nat} {xs : List α} {u : α} {i : Int} {vv zz : Value} (ht : TyI P t size bytes zz) (hx : ev f x = .pointer (some ⟨b, 0 + i.toNat * size, none⟩)) (hy : ev f y = vv) (hv : vv.cells = (c u).toArray) (h1 : ∀ q ∈ c u, q.oneCell' = true)
    (ha : Aa c size w b T xs n) (k : Nat) (hi : i = (k : Int)) (hk : k < n) :
    RunS P f ⟨dst, .store t x y, ty, pos, aft, gd⟩ w fun w' => Aa c size w' b T (xs.set k u) n ∧ Exc b w w' := by
  obtain ⟨hc, hb, hl⟩ := ha
  subst hi
  have hk' : k < xs.length := by rw [hl]; exact hk
  have e1 : 0 + ((k : Int)).toNat * size = k * size := by rw [Int.toNat_natCast, Nat.zero_add]
  rw [e1] at hx
  have hfit : k * size + (c u).length ≤ (xs.map c).flatten.length := by
    rw [flat_len hc, hc u]
    have := Nat.mul_le_mul_right size (show k + 1 ≤ xs.length by omega)
    rw [Nat.succ_mul] at this
    exact this
  obtain ⟨w', hr, h5, h6, _⟩ := h_store (P := P) (f := f) (dst := dst) (ty := ty) (pos := pos) (aft := aft) (g := gd) (cs := c u) ht hx hy hv (hc u) h1 hb hfit
  refine ⟨w', hr, ⟨hc, ?_, by simpa using hl⟩, h6⟩
  rw [flat_set hc xs k u hk'] at h5
  exact h5
end
def Aq (L : Nat) (D : Nat → TypeId → Prop) (w : World) (b : Nat) (T : TypeId) (qs : List Rat) (n : Nat) : Prop :=
  ∃ cs : List RC, Aa ratC 3 w b T cs n ∧ qs.length = n ∧ ∀ k, k < n → Rz L D w (cs.getD k default) (qs.getD k default)
section
variable {L L' : Nat} {D D' : Nat → TypeId → Prop} {w w' : World} {b n : Nat} {T : TypeId} {qs : List Rat}
theorem Aq.ext (h : Aq L D w b T qs n) (e : Ext w w') : Aq L D w' b T qs n := by
  obtain ⟨cs, h1, h2, h3⟩ := h
  exact ⟨cs, h1.ext e, h2, fun k hk => (h3 k hk).tr (Sm.ext e)⟩
theorem Aq.exc {b0 : Nat} (h : Aq L D w b T qs n) (e : Exc b0 w w') (hne : b ≠ b0) (hs : Sm D w w') : Aq L D w' b T qs n := by
  obtain ⟨cs, h1, h2, h3⟩ := h
  exact ⟨cs, h1.exc e hne, h2, fun k hk => (h3 k hk).tr hs⟩
theorem Aq.lt (h : Aq L D w b T qs n) : b < w.heap.size := by
  obtain ⟨cs, h1, h2, h3⟩ := h
  exact h1.lt
theorem Aq.sm (h : Aq L D w b T qs n) {w' : World} {D' : Nat → TypeId → Prop} (e : Exc b w w') (hD : ¬ D' b T) : Sm D' w w' := by
  obtain ⟨cs, h1, h2, h3⟩ := h
  exact h1.2.1.sm e hD
theorem Aq.len (h : Aq L D w b T qs n) : qs.length = n := by
  obtain ⟨cs, h1, h2, h3⟩ := h
  exact h2
theorem Aq.ix (h : Aq L D w b T qs n) {i : Int} (k : Nat) (hi : i = (k : Int)) (hk : k < n) :
    ∃ s vn vd x d, (∀ j u, [Value.bool s, vn, vd][j]? = some u → w.cell? ⟨b, 0 + i.toNat * 3 + j, none⟩ = some u) ∧
      Sg (gN .u32) D w vn x ∧ Lm x ∧ x.length ≤ L ∧ Sg (gN .u32) D w vd d ∧ Lm d ∧ d.length ≤ L ∧ ratOf s (val x) (val d) = qs.getD k default := by
  obtain ⟨cs, h1, h2, h3⟩ := h
  obtain ⟨x, d, g⟩ := h3 k hk
  exact ⟨_, _, _, x, d, h1.cell k hi hk, g⟩
theorem Rz.zero : Rz L D w (false, .slice none 0 0, .slice none 0 0) 0 := ⟨[], [], Sg.nil, Lm.nil, Nat.zero_le _, Sg.nil, Lm.nil, Nat.zero_le _, rfl⟩
theorem Aq.made (hb : Bk w b T (List.replicate n [.bool false, .slice none 0 0, .slice none 0 0]).flatten) : Aq L D w b T (List.replicate n 0) n := by
  refine ⟨List.replicate n (false, .slice none 0 0, .slice none 0 0), Aa.made (fun _ => rfl) hb rfl, by simp, fun k hk => ?_⟩
  have e1 : (List.replicate n ((false, .slice none 0 0, .slice none 0 0) : RC)).getD k default = (false, .slice none 0 0, .slice none 0 0) := by simp [hk]
  have e2 : (List.replicate n (0 : Rat)).getD k default = 0 := by simp [hk]
  rw [e1, e2]
  exact Rz.zero
end
section
variable {P : Program} {f : Nat → Value} {w : World} {dst : Option Tmp} {ty : TypeId} {pos : String} {aft : Array Edge} {gd : Option (Nat × Bool)} {x y z : Operand} {t e : TypeId}
end
end Go.Vg
namespace Go.Vg
open Go Go.RowKit Go.Vm
def Nb (w : World) (b : Nat) : Prop := ∃ T l, Bk w b T l ∧ NoU l
theorem Nb.of {w : World} {b : Nat} {T : TypeId} {l : List Value} (h : Bk w b T l) (hl : NoU l) : Nb w b := ⟨T, l, h, hl⟩
theorem Sg.apn {D : Nat → TypeId → Prop} {w w' : World} {v : Value} {xs : List Nat} (h : Sg (gN .u32) D w v xs) {b : Nat} (e : Exc b w w') (hb : Nb w b) : Sg (gN .u32) D w' v xs := by
  obtain ⟨T, l, h1, h2⟩ := hb
  exact h.ap e h1 h2
theorem Rz.apn {L : Nat} {D : Nat → TypeId → Prop} {w w' : World} {c : RC} {q : Rat} (h : Rz L D w c q) {b : Nat} (e : Exc b w w') (hb : Nb w b) : Rz L D w' c q := by
  obtain ⟨x, d, h1, h2, h3, h4, h5⟩ := h
  exact ⟨x, d, h1.apn e hb, h2, h3, h4.apn e hb, h5⟩
def Af {α : Type} (g : α → Value) (w : World) (b : Nat) (T : TypeId) (xs : List α) (n : Nat) : Prop := Bk w b T (xs.map g) ∧ xs.length = n
section
variable {α : Type} {g : α → Value} {D : Nat → TypeId → Prop} {w w' : World} {b n : Nat} {T : TypeId} {xs : List α}
theorem Af.ext (h : Af g w b T xs n) (e : Ext w w') : Af g w' b T xs n := ⟨h.1.ext e, h.2⟩
theorem Af.exc {b0 : Nat} (h : Af g w b T xs n) (e : Exc b0 w w') (hne : b ≠ b0) : Af g w' b T xs n := ⟨h.1.exc e hne, h.2⟩
theorem Af.lt (h : Af g w b T xs n) : b < w.heap.size := h.1.lt
theorem Af.ar (h : Af g w b T xs n) : Ar g w b T 0 xs n := h.1.ar rfl h.2
theorem Af.cell [Inhabited α] (h : Af g w b T xs n) {i : Int} (k : Nat) (hi : i = (k : Int)) (hk : k < n) : w.cell? ⟨b, 0 + i.toNat * 1, none⟩ = some (g (xs.getD k default)) := h.ar.cell k hi hk
theorem Af.sg (h : Af g w b T xs n) (hm : n ≤ 9223372036854775807) (hd : D b T) : Sg g D w (.slice (some ⟨b, 0, none⟩) n n) xs := h.ar.sc (Nat.le_refl _) hm hd
theorem Af.made {z : α} {zz : Value} (hb : Bk w b T (List.replicate n zz)) (hz : g z = zz) : Af g w b T (List.replicate n z) n := ⟨by rw [List.map_replicate, hz]; exact hb, by simp⟩
theorem Af.nb (h : Af g w b T xs n) (hg : ∀ x, isU (g x) = false) : Nb w b := ⟨T, _, h.1, fun u hu => by obtain ⟨z, -, rfl⟩ := List.mem_map.1 hu; exact hg z⟩
theorem Af.sm {D' : Nat → TypeId → Prop} (h : Af g w b T xs n) (e : Exc b w w') (hD : ¬ D' b T) : Sm D' w w' := h.1.sm e hD
end
section
variable {P : Program} {f : Nat → Value} {w : World} {dst : Option Tmp} {ty : TypeId} {pos : String} {aft : Array Edge} {gd : Option (Nat × Bool)} {x y z : Operand} {t e : TypeId}
theorem h_setF {α : Type} {g : α → Value} {T : TypeId} {b n bytes : Nat} {xs : List α} {u : α} {i : Int} {vv zz : Value} (ht : TyI P t 1 bytes zz) (hx : ev f x = .pointer (some ⟨b, 0 + i.toNat * 1, none⟩)) (hy : ev f y = vv) (hv : vv = g u) (hc : (g u).cells = #[g u]) (h1 : (g u).oneCell' = true)
    (ha : Af g w b T xs n) (k : Nat) (hi : i = (k : Int)) (hk : k < n) :
    RunS P f ⟨dst, .store t x y, ty, pos, aft, gd⟩ w fun w' => Af g w' b T (xs.set k u) n ∧ Exc b w w' := by
  obtain ⟨h3, h4⟩ := ha
  subst hi hv
  have hk' : k < xs.length := by rw [h4]; exact hk
  obtain ⟨w', hr, h5, h6, _⟩ := h_store (P := P) (f := f) (dst := dst) (ty := ty) (pos := pos) (aft := aft) (g := gd) (cs := [g u]) ht hx hy hc rfl (by simpa using h1) h3 (by simp; omega)
  refine ⟨w', hr, ⟨?_, by simpa using h4⟩, h6⟩
  have e : ((k : Int)).toNat = k := Int.toNat_natCast k
  have h7 := spl_set g [] [] xs k u hk'
  simp only [List.nil_append, List.append_nil, List.length_nil] at h7
  rw [e, h7] at h5
  exact h5
end
section
variable {L : Nat} {D : Nat → TypeId → Prop} {w w' : World} {b n : Nat} {T : TypeId} {qs : List Rat}
theorem Aq.nb (h : Aq L D w b T qs n) : Nb w b := by
  obtain ⟨cs, h1, h2, h3⟩ := h
  refine ⟨T, _, h1.2.1, fun u hu => ?_⟩
  obtain ⟨l, hl, hul⟩ := List.mem_flatten.1 hu
  obtain ⟨c, hc, rfl⟩ := List.mem_map.1 hl
  obtain ⟨k, hk, rfl⟩ := List.getElem_of_mem hc
  have hkn : k < n := by rw [← h1.2.2]; exact hk
  have hz := h3 k hkn
  rw [show cs.getD k default = cs[k] by simp [hk]] at hz
  obtain ⟨x, d, g1, _, _, g2, _⟩ := hz
  simp only [ratC, List.mem_cons, List.not_mem_nil, or_false] at hul
  rcases hul with rfl | rfl | rfl
  · rfl
  · exact g1.nu
  exact g2.nu
theorem Aq.apn {b0 : Nat} (h : Aq L D w b T qs n) (e : Exc b0 w w') (hne : b ≠ b0) (hb : Nb w b0) : Aq L D w' b T qs n := by
  obtain ⟨cs, h1, h2, h3⟩ := h
  exact ⟨cs, h1.exc e hne, h2, fun k hk => (h3 k hk).apn e hb⟩
end
section
variable {P : Program} {f : Nat → Value} {w : World} {dst : Option Tmp} {ty : TypeId} {pos : String} {aft : Array Edge} {gd : Option (Nat × Bool)} {x y z : Operand} {t e : TypeId}
end
end Go.Vg
namespace Go.Vg
open Go Go.RowKit Go.Vm
def Oq (L : Nat) (D : Nat → TypeId → Prop) (w : World) (lo : Nat) (T : TypeId) (v : Value) (qs : List Rat) : Prop :=
  ∃ cs : List RC, Ow w lo T 3 v qs.length (cs.map ratC).flatten ∧ cs.length = qs.length ∧ ∀ k, k < qs.length → Rz L D w (cs.getD k default) (qs.getD k default)
section
variable {L : Nat} {D D' : Nat → TypeId → Prop} {w w' : World} {lo b : Nat} {T T' : TypeId} {v : Value} {qs : List Rat} {l : List Value}
theorem Oq.nil : Oq L D w lo T (.slice none 0 0) [] := ⟨[], Ow.nil lo 3, rfl, fun k hk => absurd hk (Nat.not_lt_zero _)⟩
theorem Oq.ext (h : Oq L D w lo T v qs) (e : Ext w w') : Oq L D w' lo T v qs := by
  obtain ⟨cs, h1, h2, h3⟩ := h
  exact ⟨cs, h1.ext e, h2, fun k hk => (h3 k hk).tr (Sm.ext e)⟩
theorem Ow.exo {size n : Nat} (h : Ow w lo T size v n l) (e : Exc b w w') (hne : v.ownBlock ≠ some b) : Ow w' lo T size v n l :=
  h.kept (row := some b) ⟨e.os, e.tape, e.output, e.size, fun k hk hn => e.block k hk (fun he => hn (by rw [he]))⟩ (.inr hne)
theorem Oq.exo (h : Oq L D w lo T v qs) (e : Exc b w w') (hne : v.ownBlock ≠ some b) (hb : Nb w b) : Oq L D w' lo T v qs := by
  obtain ⟨cs, h1, h2, h3⟩ := h
  exact ⟨cs, h1.exo e hne, h2, fun k hk => (h3 k hk).apn e hb⟩
theorem Oq.lt (h : Oq L D w lo T v qs) (b : Nat) (hb : v.ownBlock = some b) : b < w.heap.size := by
  obtain ⟨cs, h1, h2, h3⟩ := h
  exact (World.ownsRow.lt h1 b hb).2
theorem Oq.one (h : Oq L D w lo T v qs) : v.oneCell' = true := by
  obtain ⟨cs, h1, h2, h3⟩ := h
  exact h1.one
theorem Oq.rs (h : Oq L D w lo T v qs) (h1 : ∀ b, lo ≤ b → D' b T) (h2 : ∀ b T, D b T → D' b T) : Rs L D' w v qs := by
  obtain ⟨cs, g1, g2, g3⟩ := h
  exact ⟨cs, g1.ss rfl g2.symm dC (fun _ _ => rfl) h1, g2, fun k hk => (g3 k hk).mono h2⟩
theorem Oq.len (h : Oq L D w lo T v qs) : ∃ A c, v = .slice A qs.length c ∧ qs.length ≤ c ∧ c ≤ 9223372036854775807 := by
  obtain ⟨cs, h1, h2, h3⟩ := h
  exact h1.len
theorem Oq.gsm (h : Oq L D w lo T v qs) (hg : w.grownBy w' v.ownBlock) (hD : ∀ b, lo ≤ b → ¬ D' b T) : Sm D' w w' := by
  obtain ⟨cs, h1, h2, h3⟩ := h
  exact h1.sm hg hD
theorem Oq.gbk (h : Oq L D w lo T v qs) (hg : w.grownBy w' v.ownBlock) (hb : Bk w b T' l) (hne : T' ≠ T) : Bk w' b T' l := by
  obtain ⟨cs, h1, h2, h3⟩ := h
  exact h1.bk hg hb (.inr hne)
theorem Oq.gbo (_h : Oq L D w lo T v qs) (hg : w.grownBy w' v.ownBlock) (hb : Bk w b T' l) (hne : v.ownBlock ≠ some b) : Bk w' b T' l :=
  (hg.block b hb.lt (fun he => hne he.symm)).trans hb
theorem Oq.gbe {w0 : World} {B : Nat} (h : Oq L D w lo T v qs) (hg : w.grownBy w' v.ownBlock) (hE : Below B w0 w) (hB : B ≤ lo) (hs : B ≤ w.heap.size) : Below B w0 w' := by
  obtain ⟨cs, h1, h2, h3⟩ := h
  exact h1.below hg hE hB hs
end
section
variable {P : Program} {f : Nat → Value} {w : World} {dst : Option Tmp} {ty : TypeId} {pos : String} {aft : Array Edge} {g : Option (Nat × Bool)} {x y z : Operand} {t e : TypeId} {D D2 : Nat → TypeId → Prop}
end
end Go.Vg
namespace Go.Proofs.YtelbjmhhbeijkaaGreat
open Go.Vg Go.RowKit _root_.Go.Proofs.Tryz
set_option linter.unusedVariables false
open Go.Vm
set_option maxHeartbeats 1000000 in
theorem r01_gcd {w : World} {Dx : Nat → TypeId → Prop} {vx : Value} {x : List Nat} (hx : Sg (gN .u32) Dx w vx x) (lmx : Lm x) (lnx : x.length ≤ 549755813888) {Dy : Nat → TypeId → Prop} {vy : Value} {y : List Nat} (hy : Sg (gN .u32) Dy w vy y) (lmy : Lm y) (lny : y.length ≤ 549755813888) :
    Calls Tryz.prog 108 #[vx, vy] w fun e w' => ∃ v, e = .returned v ∧ Sg (gN .u32) (fun b T => w.heap.size ≤ b ∧ T = 89) w' v (digs (Nat.gcd (val x) (val y))) ∧ Ext w w' := by
 have hE : Below w.heap.size w w := Below.refl _ _
 refine calls_of (n := 25) (rs := [.tmp 4]) func108 rfl rfl rfl bL ?_
 refine wset fun F0 hF0 => ?_
 refine wsr (aS (v := (.slice none (0) (0))) rfl (RL.nil (wsr (mV (v := vx) (hF0 0) ?_))))
 refine cL ent112 (r01_trim hx (by assumption) oS) rfl ?_
 rintro vr3 w1 ⟨hr4, he2⟩
 have he2z := he2.size
 replace hy := hy.tr (Sm.ext he2)
 replace hE := Below.ext hE oM he2
 have hlt5 : (digs (val x)).length ≤ x.length := len_le_of (by assumption)
 refine mV (v := vy) (hF0 1) ?_
 refine cL ent112 (r01_trim hy (by assumption) oS) rfl ?_
 rintro vr8 w6 ⟨hr9, he7⟩
 have he7z := he7.size
 replace hE := Below.ext hE oM he7
 replace hr4 := hr4.tr (Sm.ext he7)
 have hlt10 : (digs (val y)).length ≤ y.length := len_le_of (by assumption)
 refine aS (v := vr3) rfl (aS (v := vr8) rfl (RL.nil (wseq ?_)))
 refine wblock ?_
 refine wset fun F11 hF12 => ?_
 refine wloop (σ := Nat × Nat × Value × Value) (fun (s : Nat × Nat × Value × Value) fl wl => match s with | (a, b, va, vb) => Off (rg 0 2 (rg 5 3 (rg 12 12 []))) F11 fl ∧ fl 0 = va ∧ fl 1 = vb ∧ (Nat.gcd a b = Nat.gcd (val x) (val y)) ∧ ((digs a).length ≤ 549755813888) ∧ ((digs b).length ≤ 549755813888) ∧ (Sg (gN .u32) (fun b T => w.heap.size ≤ b ∧ T = 89) wl va (digs a)) ∧ (Sg (gN .u32) (fun b T => w.heap.size ≤ b ∧ T = 89) wl vb (digs b)) ∧ (Below w.heap.size w wl) ∧ (w6.heap.size ≤ wl.heap.size)) (fun (s : Nat × Nat × Value × Value) => match s with | (a, b, va, vb) => b) (val x, val y, vr3, vr8) ?_ ?_
 ·exact ⟨Off.refl _ _, (hF12 0).trans (rfl), (hF12 1).trans (rfl), rfl, by omega, by omega, hr4.mono (fun b T h => by first | exact ⟨by have := h.1; omega, h.2⟩ | exact ⟨by have := h.1; omega, h.2.1⟩ | exact ⟨by have := h.1; omega, h.2, by have := h.1; omega⟩ | exact ⟨by have := h.1; omega, h.2.1, by have := h.1; omega⟩ | exact ⟨by have := h.1; omega, h.2.1, h.2.2⟩), hr9.mono (fun b T h => by first | exact ⟨by have := h.1; omega, h.2⟩ | exact ⟨by have := h.1; omega, h.2.1⟩ | exact ⟨by have := h.1; omega, h.2, by have := h.1; omega⟩ | exact ⟨by have := h.1; omega, h.2.1, by have := h.1; omega⟩ | exact ⟨by have := h.1; omega, h.2.1, h.2.2⟩), hE, Nat.le_refl _⟩
 clear hx hy hE hr4 hr9
 rintro ⟨a, b, va, vb⟩ f14 w15 ⟨G16, hs17, hs18, hg, hla, hlb, ha, hb, hE, hz13⟩
 refine wseq (wsr (mV hs18 ?_))
 obtain ⟨A19, c20, hv21, hc22, hc23⟩ := hb.len
 refine rV (r_len uT40 hv21) (rV (r_gtr (k := .i64) (a := (((digs b).length : Nat) : Int)) (b := 0) rfl rfl) (RL.nil ?_))
 refine wcD (p := 0 < (((digs b).length : Nat) : Int)) rfl (fun hb24 hb24p => ?_) (fun hb24 hb24p => ?_)
 ·have hb0 : b ≠ 0 := fun h => by rw [h] at hb24p; simp [digs_zero] at hb24p
  refine wskip ?_
  refine wblock ?_
  refine wsr (mV hs17 (mV hs18 ?_))
  refine cL ent109 (r01_divmod ha (digs_lm _) oS hb (digs_lm _) oS) rfl ?_
  rintro vv31 w25 ⟨⟨vq27, vr29, hv32, hq28, hr30⟩, he26⟩
  simp only [val_digs] at hv32 hq28 hr30
  subst hv32
  have hlv33 := dl_div a b
  have hlv34 := dl_modZ a b
  have hlv35 := dl_modZ' a b
  have he26z := he26.size
  replace hE := Below.ext hE oM he26
  replace hb := hb.tr (Sm.ext he26)
  refine mV (v := (.tuple #[vq27, vr29, (bd (b ≠ 0))])) rfl (rV (r_extract (v := vq27) rfl rfl) (rV (r_extract (v := vr29) rfl rfl) (rV (r_extract (v := (bd (b ≠ 0))) rfl rfl) (aS (v := vq27) rfl (aS (v := vr29) rfl (aS (v := (bd (b ≠ 0))) rfl (RL.nil (wregion (mV hs18 (mV (v := vr29) rfl (aS (v := vb) rfl (aS (v := vr29) rfl (RL.nil ?_)))))))))))))
  refine ⟨(b, modZ a b, vb, vr29), ⟨?_, ?_, ?_, ?_, ?_, ?_, ?_, ?_, ?_, ?_⟩, ?_⟩
  · exact (by repeat (first | exact G16 | refine Off.st ?_ dC _))
  · first | rfl | exact int_eq oM | exact bool_eq (by simp)
  · first | rfl | exact int_eq oM | exact bool_eq (by simp)
  · rw [← hg, show modZ a b = a % b from if_neg hb0, Nat.gcd_comm, ← Nat.gcd_rec, Nat.gcd_comm]
  · omega
  · omega
  · exact hb
  · exact hr30.mono (fun b T h => by first | exact ⟨by have := h.1; omega, h.2⟩ | exact ⟨by have := h.1; omega, h.2.1⟩ | exact ⟨by have := h.1; omega, h.2, by have := h.1; omega⟩ | exact ⟨by have := h.1; omega, h.2.1, by have := h.1; omega⟩ | exact ⟨by have := h.1; omega, h.2.1, h.2.2⟩)
  · exact hE
  · omega
  (try dsimp only)
  rw [show modZ a b = a % b from if_neg hb0]
  exact Nat.mod_lt _ oM
 have hb0 : b = 0 := len_zero.1 (by unfold len; omega)
 refine wexit ?_
 refine wsr (mV hs17 (aS (v := va) rfl (RL.nil ?_)))
 refine wret ?_
 refine ⟨[va], ⟨rfl, trivial⟩, ?_⟩
 rw [hb0, Nat.gcd_zero_right] at hg
 rw [hg] at ha
 exact ⟨ha, hE⟩
theorem isub_a {sx sy : Bool} {x y : Nat} {zx zy : Int} (ex : sg sx x = zx) (ey : sg sy y = zy) (hs : sx ≠ sy) (h : y ≤ x) : sg sx (x - y) = zx + zy := by
  rw [← ex, ← ey]
  cases sx <;> cases sy <;> simp [sg] at * <;> omega
theorem isub_b {sx sy : Bool} {x y : Nat} {zx zy : Int} (ex : sg sx x = zx) (ey : sg sy y = zy) (hs : sx ≠ sy) (h : ¬ y ≤ x) : sg sy (y - x) = zx + zy := by
  rw [← ex, ← ey]
  cases sx <;> cases sy <;> simp [sg] at * <;> omega
theorem agg2 {b c : Bool} {v : Value} (h : b = c) : Value.agg #[.bool b, v] = .agg #[.bool c, v] := by rw [h]
set_option maxHeartbeats 1000000 in
theorem r02_make {w : World} {sx : Bool} {Dx : Nat → TypeId → Prop} {vx : Value} {x : List Nat} (hx : Sg (gN .u32) Dx w vx x) (lmx : Lm x) (lnx : x.length ≤ 8796093022208) {zx : Int} (ex : sg sx (val x) = zx) :
    Calls Tryz.prog 87 #[(.bool sx), vx] w fun e w' => ∃ v, e = .returned v ∧ (∃ vr, v = .agg #[.bool (decide (zx < 0)), vr] ∧ Sg (gN .u32) (fun b T => w.heap.size ≤ b ∧ T = 89) w' vr (digs zx.natAbs) ∧ (digs zx.natAbs).length ≤ x.length) ∧ Ext w w' := by
 have hE : Below w.heap.size w w := Below.refl _ _
 have hlzx := il_le lmx ex
 refine calls_of (n := 16) (rs := [.cell 4 42]) func87 rfl rfl rfl bL ?_
 refine wset fun F0 hF0 => ?_
 refine wsr ?_
 refine rU (h_alloc (cs := [(.bool false), (.slice none 0 0)]) ty42 rfl) ?_
 rintro _ w1 ⟨b2, rfl, hs5, hb4, he3⟩
 have ge_b2 := hE.ge hs5
 replace hE := hE.nx he3
 refine RL.nil (wsr (mV (v := vx) (hF0 1) ?_))
 replace hx := hx.tr (Sm.ext he3)
 refine cL ent112 (r01_trim hx (by assumption) oS) rfl ?_
 rintro vr8 w6 ⟨hr9, he7⟩
 replace hr9 := hr9.fr hE
 replace hE := hE.nx he7
 have hlt10 : (digs (val x)).length ≤ x.length := len_le_of (by assumption)
 refine aS (v := vr8) rfl (RL.nil (wsr (mV (v := (.bool sx)) (hF0 0) (mV (v := (.bool sx)) rfl ?_))))
 rcases Bool.eq_false_or_eq_true (sx) with hb11 | hb11
 ·have hb11p := hb11
  have hsx : sx = true := hb11
  refine RL.gval rfl rfl (bool_eq hb11) rfl dC (r_move_as (v := vr8) rfl) ?_
  obtain ⟨A12, c13, hv14, hc15, hc16⟩ := hr9.len
  refine RL.gval rfl rfl (bool_eq hb11) rfl dC (r_len uT40 hv14) ?_
  refine RL.gval rfl rfl (bool_eq hb11) rfl dC (r_gtr (k := .i64) (a := (((digs (val x)).length : Nat) : Int)) (b := 0) rfl rfl) ?_
  refine rV (r_pick_t (v := (bd (0 < (((digs (val x)).length : Nat) : Int)))) (bool_eq hb11) rfl) (mV (v := vr8) rfl (rV (r_build (vl := [(0, (bd (0 < (((digs (val x)).length : Nat) : Int)))), (1, vr8)]) (cs := [(bd (0 < (((digs (val x)).length : Nat) : Int))), vr8]) uT42 ty42 rfl (pl42 uT42) (by obtain ⟨_, _, e0_, -, -⟩ := hr9.len; simp only [e0_]; rfl)) ?_))
  replace hb4 := hb4.ext he7
  refine RL.runs rfl rfl (h_stA (cs := [(bd (0 < (((digs (val x)).length : Nat) : Int))), vr8]) (o := 0) ty42 rfl rfl rfl rfl (one_cons rfl (one_cons hr9.one one_nil)) hb4 bL) ?_
  rintro w17 ⟨hn18, hx19, hz20⟩
  replace hE := hE.nb hx19 ge_b2
  have nb_hx19 := (Nb.of hb4 (nu_cons rfl (nu_cons rfl nu_nil)))
  replace hb4 : Bk w17 b2 42 [(bd (0 < (((digs (val x)).length : Nat) : Int))), vr8] := hn18
  refine RL.nil ?_
  refine wret ?_
  refine ⟨[(.agg #[(bd (0 < (((digs (val x)).length : Nat) : Int))), vr8])], ⟨⟨_, _, [(bd (0 < (((digs (val x)).length : Nat) : Int))), vr8], rfl, ⟨_, uT42⟩, hb4.cells rfl, .inl ⟨ag42, ⟨_, _, ty42⟩, rfl⟩⟩, trivial⟩, ?_⟩
  replace hr9 := hr9.apn hx19 nb_hx19
  exact ⟨⟨_, agg2 (mk_t ex hsx), by rw [← mk_abs ex]; exact hr9, by omega⟩, hE⟩
 have hb11p := hb11
 have hsx : sx = false := hb11
 refine RL.gno rfl rfl (bool_eq hb11) rfl dC ?_
 refine RL.gno rfl rfl (bool_eq hb11) rfl dC ?_
 refine RL.gno rfl rfl (bool_eq hb11) rfl dC ?_
 refine rV (r_pick_f (v := (.bool false)) (bool_eq hb11) rfl) (mV (v := vr8) rfl (rV (r_build (vl := [(0, (.bool false)), (1, vr8)]) (cs := [(.bool false), vr8]) uT42 ty42 rfl (pl42 uT42) (by obtain ⟨_, _, e0_, -, -⟩ := hr9.len; simp only [e0_]; rfl)) ?_))
 replace hb4 := hb4.ext he7
 refine RL.runs rfl rfl (h_stA (cs := [(.bool false), vr8]) (o := 0) ty42 rfl rfl rfl rfl (one_cons rfl (one_cons hr9.one one_nil)) hb4 bL) ?_
 rintro w21 ⟨hn22, hx23, hz24⟩
 replace hE := hE.nb hx23 ge_b2
 have nb_hx23 := (Nb.of hb4 (nu_cons rfl (nu_cons rfl nu_nil)))
 replace hb4 : Bk w21 b2 42 [(.bool false), vr8] := hn22
 refine RL.nil ?_
 refine wret ?_
 refine ⟨[(.agg #[(.bool false), vr8])], ⟨⟨_, _, [(.bool false), vr8], rfl, ⟨_, uT42⟩, hb4.cells rfl, .inl ⟨ag42, ⟨_, _, ty42⟩, rfl⟩⟩, trivial⟩, ?_⟩
 replace hr9 := hr9.apn hx23 nb_hx23
 exact ⟨⟨_, agg2 (mk_f ex hsx), by rw [← mk_abs ex]; exact hr9, by omega⟩, hE⟩
set_option maxHeartbeats 1000000 in
theorem r02_norm {w : World} {sx : Bool} {Dx : Nat → TypeId → Prop} {vx : Value} {x : List Nat} (hx : Sg (gN .u32) Dx w vx x) (lmx : Lm x) (lnx : x.length ≤ 8796093022208) {zx : Int} (ex : sg sx (val x) = zx) :
    Calls Tryz.prog 83 #[(.agg #[(.bool sx), vx])] w fun e w' => ∃ v, e = .returned v ∧ (∃ vr, v = .agg #[.bool (decide (zx < 0)), vr] ∧ Sg (gN .u32) (fun b T => w.heap.size ≤ b ∧ T = 89) w' vr (digs zx.natAbs) ∧ (digs zx.natAbs).length ≤ x.length) ∧ Ext w w' := by
 have hE : Below w.heap.size w w := Below.refl _ _
 have hlzx := il_le lmx ex
 refine calls_of (n := 8) (rs := [.cell 2 42]) func83 rfl rfl rfl bL ?_
 refine wset fun F0 hF0 => ?_
 refine wsr ?_
 refine rU (h_bxA (cs := [(.bool sx), vx]) (hF0 0) rfl) ?_
 rintro _ w1 ⟨b2, rfl, hs5, hb4, he3⟩
 have ge_b2 := hE.ge hs5
 replace hE := hE.nx he3
 refine rU (h_alloc (cs := [(.bool false), (.slice none 0 0)]) ty42 rfl) ?_
 rintro _ w6 ⟨b7, rfl, hs10, hb9, he8⟩
 have lt_b2_b7 := Nat.lt_of_lt_of_eq hb4.lt hs10.symm
 have ge_b7 := hE.ge hs10
 replace hE := hE.nx he8
 refine RL.nil (wsr (rV (r_fieldAddr uT42 rfl ty4 rfl) ?_))
 replace hb4 := hb4.ext he8
 have hc11 := hb4.cell (j := 0) (u := (.bool sx)) rfl
 refine rV (r_load uT4 ag4 rfl hc11) (rV (r_fieldAddr uT42 rfl ty40 rfl) ?_)
 have hc12 := hb4.cell (j := 1) (u := vx) rfl
 refine rV (r_load uT40 ag40 rfl hc12) ?_
 replace hx := hx.tr (Sm.ext (Ext.trans he3 he8))
 refine cL ent87 (r02_make hx (by assumption) oS (show sg sx (val x) = zx from ex)) rfl ?_
 rintro _ w13 ⟨⟨vr15, rfl, hr16, hl17⟩, he14⟩
 replace hr16 := hr16.fr hE
 replace hb9 := hb9.ext he14
 refine RL.runs rfl rfl (h_stA (cs := [(bd (zx < 0)), vr15]) (o := 0) ty42 rfl rfl rfl rfl (one_cons rfl (one_cons hr16.one one_nil)) hb9 bL) ?_
 rintro w18 ⟨hn19, hx20, hz21⟩
 replace hE := (hE.nx he14).nb hx20 ge_b7
 have nb_hx20 := (Nb.of hb9 (nu_cons rfl (nu_cons rfl nu_nil)))
 replace hb9 : Bk w18 b7 42 [(bd (zx < 0)), vr15] := hn19
 refine RL.nil ?_
 refine wret ?_
 refine ⟨[(.agg #[(bd (zx < 0)), vr15])], ⟨⟨_, _, [(bd (zx < 0)), vr15], rfl, ⟨_, uT42⟩, hb9.cells rfl, .inl ⟨ag42, ⟨_, _, ty42⟩, rfl⟩⟩, trivial⟩, ?_⟩
 replace hr16 := hr16.apn hx20 nb_hx20
 exact ⟨⟨_, rfl, hr16, oM⟩, hE⟩
set_option maxHeartbeats 1000000 in
theorem r02_neg {w : World} {sx : Bool} {Dx : Nat → TypeId → Prop} {vx : Value} {x : List Nat} (hx : Sg (gN .u32) Dx w vx x) (lmx : Lm x) (lnx : x.length ≤ 8796093022208) {zx : Int} (ex : sg sx (val x) = zx) :
    Calls Tryz.prog 86 #[(.agg #[(.bool sx), vx])] w fun e w' => ∃ v, e = .returned v ∧ (∃ vr, v = .agg #[.bool (decide ((-zx) < 0)), vr] ∧ Sg (gN .u32) (fun b T => w.heap.size ≤ b ∧ T = 89) w' vr (digs (-zx).natAbs) ∧ (digs (-zx).natAbs).length ≤ x.length) ∧ Ext w w' := by
 have hE : Below w.heap.size w w := Below.refl _ _
 have hlzx := il_le lmx ex
 refine calls_of (n := 9) (rs := [.cell 2 42]) func86 rfl rfl rfl bL ?_
 refine wset fun F0 hF0 => ?_
 refine wsr ?_
 refine rU (h_bxA (cs := [(.bool sx), vx]) (hF0 0) rfl) ?_
 rintro _ w1 ⟨b2, rfl, hs5, hb4, he3⟩
 have ge_b2 := hE.ge hs5
 replace hE := hE.nx he3
 refine rU (h_alloc (cs := [(.bool false), (.slice none 0 0)]) ty42 rfl) ?_
 rintro _ w6 ⟨b7, rfl, hs10, hb9, he8⟩
 have lt_b2_b7 := Nat.lt_of_lt_of_eq hb4.lt hs10.symm
 have ge_b7 := hE.ge hs10
 replace hE := hE.nx he8
 refine RL.nil (wsr (rV (r_fieldAddr uT42 rfl ty4 rfl) ?_))
 replace hb4 := hb4.ext he8
 have hc11 := hb4.cell (j := 0) (u := (.bool sx)) rfl
 refine rV (r_load uT4 ag4 rfl hc11) (rV (r_not rfl) (rV (r_fieldAddr uT42 rfl ty40 rfl) ?_))
 have hc12 := hb4.cell (j := 1) (u := vx) rfl
 refine rV (r_load uT40 ag40 rfl hc12) ?_
 replace hx := hx.tr (Sm.ext (Ext.trans he3 he8))
 refine cL ent87 (r02_make hx (by assumption) oS (show sg (!sx) (val x) = -zx from (by rw [sg_neg, ex]))) rfl ?_
 rintro _ w13 ⟨⟨vr15, rfl, hr16, hl17⟩, he14⟩
 replace hr16 := hr16.fr hE
 replace hb9 := hb9.ext he14
 refine RL.runs rfl rfl (h_stA (cs := [(bd ((-zx) < 0)), vr15]) (o := 0) ty42 rfl rfl rfl rfl (one_cons rfl (one_cons hr16.one one_nil)) hb9 bL) ?_
 rintro w18 ⟨hn19, hx20, hz21⟩
 replace hE := (hE.nx he14).nb hx20 ge_b7
 have nb_hx20 := (Nb.of hb9 (nu_cons rfl (nu_cons rfl nu_nil)))
 replace hb9 : Bk w18 b7 42 [(bd ((-zx) < 0)), vr15] := hn19
 refine RL.nil ?_
 refine wret ?_
 refine ⟨[(.agg #[(bd ((-zx) < 0)), vr15])], ⟨⟨_, _, [(bd ((-zx) < 0)), vr15], rfl, ⟨_, uT42⟩, hb9.cells rfl, .inl ⟨ag42, ⟨_, _, ty42⟩, rfl⟩⟩, trivial⟩, ?_⟩
 replace hr16 := hr16.apn hx20 nb_hx20
 exact ⟨⟨_, rfl, hr16, oM⟩, hE⟩
set_option maxHeartbeats 1000000 in
theorem r02_abs {w : World} {sx : Bool} {Dx : Nat → TypeId → Prop} {vx : Value} {x : List Nat} (hx : Sg (gN .u32) Dx w vx x) (lmx : Lm x) (lnx : x.length ≤ 8796093022208) {zx : Int} (ex : sg sx (val x) = zx) :
    Calls Tryz.prog 110 #[(.agg #[(.bool sx), vx])] w fun e w' => ∃ v, e = .returned v ∧ (∃ vr, v = .agg #[.bool (decide (((zx.natAbs : Nat) : Int) < 0)), vr] ∧ Sg (gN .u32) (fun b T => w.heap.size ≤ b ∧ T = 89) w' vr (digs ((zx.natAbs : Nat) : Int).natAbs) ∧ (digs ((zx.natAbs : Nat) : Int).natAbs).length ≤ x.length) ∧ Ext w w' := by
 have hE : Below w.heap.size w w := Below.refl _ _
 have hlzx := il_le lmx ex
 refine calls_of (n := 6) (rs := [.cell 2 42]) func110 rfl rfl rfl bL ?_
 refine wset fun F0 hF0 => ?_
 refine wsr ?_
 refine rU (h_bxA (cs := [(.bool sx), vx]) (hF0 0) rfl) ?_
 rintro _ w1 ⟨b2, rfl, hs5, hb4, he3⟩
 have ge_b2 := hE.ge hs5
 replace hE := hE.nx he3
 refine rU (h_alloc (cs := [(.bool false), (.slice none 0 0)]) ty42 rfl) ?_
 rintro _ w6 ⟨b7, rfl, hs10, hb9, he8⟩
 have lt_b2_b7 := Nat.lt_of_lt_of_eq hb4.lt hs10.symm
 have ge_b7 := hE.ge hs10
 replace hE := hE.nx he8
 refine RL.nil (wsr (rV (r_fieldAddr uT42 rfl ty40 rfl) ?_))
 replace hb4 := hb4.ext he8
 have hc11 := hb4.cell (j := 1) (u := vx) rfl
 refine rV (r_load uT40 ag40 rfl hc11) ?_
 replace hx := hx.tr (Sm.ext (Ext.trans he3 he8))
 refine cL ent87 (r02_make hx (by assumption) oS (show sg false (val x) = ((zx.natAbs : Nat) : Int) from (by rw [← ex, sg_abs, sg_f]))) rfl ?_
 rintro _ w12 ⟨⟨vr14, rfl, hr15, hl16⟩, he13⟩
 replace hr15 := hr15.fr hE
 replace hb9 := hb9.ext he13
 refine RL.runs rfl rfl (h_stA (cs := [(bd (((zx.natAbs : Nat) : Int) < 0)), vr14]) (o := 0) ty42 rfl rfl rfl rfl (one_cons rfl (one_cons hr15.one one_nil)) hb9 bL) ?_
 rintro w17 ⟨hn18, hx19, hz20⟩
 replace hE := (hE.nx he13).nb hx19 ge_b7
 have nb_hx19 := (Nb.of hb9 (nu_cons rfl (nu_cons rfl nu_nil)))
 replace hb9 : Bk w17 b7 42 [(bd (((zx.natAbs : Nat) : Int) < 0)), vr14] := hn18
 refine RL.nil ?_
 refine wret ?_
 refine ⟨[(.agg #[(bd (((zx.natAbs : Nat) : Int) < 0)), vr14])], ⟨⟨_, _, [(bd (((zx.natAbs : Nat) : Int) < 0)), vr14], rfl, ⟨_, uT42⟩, hb9.cells rfl, .inl ⟨ag42, ⟨_, _, ty42⟩, rfl⟩⟩, trivial⟩, ?_⟩
 replace hr15 := hr15.apn hx19 nb_hx19
 exact ⟨⟨_, rfl, hr15, oM⟩, hE⟩
set_option maxHeartbeats 1000000 in
theorem r02_add {w : World} {sx : Bool} {Dx : Nat → TypeId → Prop} {vx : Value} {x : List Nat} (hx : Sg (gN .u32) Dx w vx x) (lmx : Lm x) (lnx : x.length ≤ 274877906944) {zx : Int} (ex : sg sx (val x) = zx) {sy : Bool} {Dy : Nat → TypeId → Prop} {vy : Value} {y : List Nat} (hy : Sg (gN .u32) Dy w vy y) (lmy : Lm y) (lny : y.length ≤ 274877906944) {zy : Int} (ey : sg sy (val y) = zy) :
    Calls Tryz.prog 95 #[(.agg #[(.bool sx), vx]), (.agg #[(.bool sy), vy])] w fun e w' => ∃ v, e = .returned v ∧ (∃ vr, v = .agg #[.bool (decide ((zx + zy) < 0)), vr] ∧ Sg (gN .u32) (fun b T => w.heap.size ≤ b ∧ T = 89) w' vr (digs (zx + zy).natAbs) ∧ (digs (zx + zy).natAbs).length ≤ max x.length y.length + 1) ∧ Ext w w' := by
 have hE : Below w.heap.size w w := Below.refl _ _
 have hlzx := il_le lmx ex
 have hlzy := il_le lmy ey
 refine calls_of (n := 47) (rs := [.cell 4 42]) func95 rfl rfl rfl bL ?_
 refine wset fun F0 hF0 => ?_
 refine wsr ?_
 refine rU (h_bxA (cs := [(.bool sx), vx]) (hF0 0) rfl) ?_
 rintro _ w1 ⟨b2, rfl, hs5, hb4, he3⟩
 have ge_b2 := hE.ge hs5
 replace hE := hE.nx he3
 refine rU (h_bxA (cs := [(.bool sy), vy]) (hF0 1) rfl) ?_
 rintro _ w6 ⟨b7, rfl, hs10, hb9, he8⟩
 have lt_b2_b7 := Nat.lt_of_lt_of_eq hb4.lt hs10.symm
 have ge_b7 := hE.ge hs10
 replace hE := hE.nx he8
 refine rU (h_alloc (cs := [(.bool false), (.slice none 0 0)]) ty42 rfl) ?_
 rintro _ w11 ⟨b12, rfl, hs15, hb14, he13⟩
 have lt_b7_b12 := Nat.lt_of_lt_of_eq hb9.lt hs15.symm
 have ge_b12 := hE.ge hs15
 replace hE := hE.nx he13
 refine RL.nil (wseq (wsr (rV (r_fieldAddr uT42 rfl ty4 rfl) ?_)))
 replace hb4 := hb4.ext (Ext.trans he8 he13)
 have hc16 := hb4.cell (j := 0) (u := (.bool sx)) rfl
 refine rV (r_load uT4 ag4 rfl hc16) (rV (r_fieldAddr uT42 rfl ty4 rfl) ?_)
 replace hb9 := hb9.ext he13
 have hc17 := hb9.cell (j := 0) (u := (.bool sy)) rfl
 refine rV (r_load uT4 ag4 rfl hc17) (rV (r_eqlb uT4 rfl rfl) (RL.nil ?_))
 refine wcond (b := sx == sy) rfl (fun hb18 => ?_) (fun hb18 => ?_)
 ·have hb18p := hb18
  have hs : sx = sy := by simpa using hb18
  refine wseq ?_
  refine wdraw mixed fun w19 he20 => ?_
  replace hE := hE.nx he20
  refine ra 0 rfl (fun _ => r_fieldAddr uT42 rfl ty4 rfl) ?_
  replace hb4 := hb4.ext he20
  have hc21 := hb4.cell (j := 0) (u := (.bool sx)) rfl
  refine aR 1 rfl (fun u hu => r_load uT4 ag4 rfl (cell_ext hu hc21)) ?_
  refine ra 2 rfl (fun _ => r_fieldAddr uT42 rfl ty40 rfl) ?_
  have hc22 := hb4.cell (j := 1) (u := vx) rfl
  refine aR 3 rfl (fun u hu => r_load uT40 ag40 rfl (cell_ext hu hc22)) ?_
  refine ra 4 rfl (fun _ => r_fieldAddr uT42 rfl ty40 rfl) ?_
  replace hb9 := hb9.ext he20
  have hc23 := hb9.cell (j := 1) (u := vy) rfl
  refine aR 5 rfl (fun u hu => r_load uT40 ag40 rfl (cell_ext hu hc23)) ?_
  refine RA.all [6] kR rfl ?_
  have hm28 := Ext.trans he3 (Ext.trans he8 (Ext.trans he13 he20))
  replace hx := hx.tr (Sm.ext hm28)
  replace hy := hy.tr (Sm.ext hm28)
  refine cS ent118 (r01_add hx (by assumption) oS hy (by assumption) oS) rfl rfl ?_ RS.nil
  rintro vr26 w24 ⟨hr27, he25⟩
  refine rm he25 ?_
  replace hr27 := hr27.fr hE
  replace hE := hE.nx he25
  have hlv29 := dl_val (x := x) (by assumption)
  have hlv30 := dl_val (x := y) (by assumption)
  have hlv31 := dl_add (val x) (val y)
  refine RA.all [7] kR rfl ?_
  refine cS ent87 (r02_make hr27 (digs_lm _) oS (show sg sx (val (digs ((val x) + (val y)))) = zx + zy from (by rw [val_digs, sg_add, ex, hs, ey]))) rfl rfl ?_ RS.nil
  rintro _ w32 ⟨⟨vr34, rfl, hr35, hl36⟩, he33⟩
  refine rm he33 ?_
  replace hr35 := hr35.fr hE
  refine RA.all [8] kR rfl ?_
  have hm41 := Ext.trans he20 (Ext.trans he25 he33)
  replace hb14 := hb14.ext hm41
  refine RS.runs rfl rfl rfl (h_stA (cs := [(bd ((zx + zy) < 0)), vr34]) (o := 0) ty42 rfl rfl rfl rfl (one_cons rfl (one_cons hr35.one one_nil)) hb14 bL) ?_ RS.nil
  rintro w37 ⟨hn38, hx39, hz40⟩
  refine ⟨.inr (.inl kR), ?_⟩
  replace hE := (hE.nx he33).nb hx39 ge_b12
  have nb_hx39 := (Nb.of hb14 (nu_cons rfl (nu_cons rfl nu_nil)))
  replace hb14 : Bk w37 b12 42 [(bd ((zx + zy) < 0)), vr34] := hn38
  refine RA.done kR ?_
  refine wret ?_
  refine ⟨[(.agg #[(bd ((zx + zy) < 0)), vr34])], ⟨⟨_, _, [(bd ((zx + zy) < 0)), vr34], rfl, ⟨_, uT42⟩, hb14.cells rfl, .inl ⟨ag42, ⟨_, _, ty42⟩, rfl⟩⟩, trivial⟩, ?_⟩
  replace hr35 := hr35.apn hx39 nb_hx39
  exact ⟨⟨_, rfl, hr35, oM⟩, hE⟩
 have hb18p := hb18
 have hs : sx ≠ sy := by simpa using hb18
 refine wskip ?_
 refine wseq (wsr (rV (r_fieldAddr uT42 rfl ty40 rfl) ?_))
 have hc42 := hb4.cell (j := 1) (u := vx) rfl
 refine rV (r_load uT40 ag40 rfl hc42) (rV (r_fieldAddr uT42 rfl ty40 rfl) ?_)
 have hc43 := hb9.cell (j := 1) (u := vy) rfl
 refine rV (r_load uT40 ag40 rfl hc43) ?_
 have hm50 := Ext.trans he3 (Ext.trans he8 he13)
 replace hx := hx.tr (Sm.ext hm50)
 replace hy := hy.tr (Sm.ext hm50)
 refine cL ent119 (r01_sub hx (by assumption) oS hy (by assumption) oS) rfl ?_
 rintro vq48 w44 ⟨⟨vr46, hq49, hr47⟩, he45⟩
 have hlv51 := dl_val (x := x) (by assumption)
 have hlv52 := dl_val (x := y) (by assumption)
 have hlv53 := dl_sub (val x) (val y)
 subst hq49
 replace hr47 := hr47.fr hE
 replace hE := hE.nx he45
 refine mV (v := (.tuple #[vr46, (bd ((val y) ≤ (val x)))])) rfl (rV (r_extract (v := vr46) rfl rfl) (rV (r_extract (v := (bd ((val y) ≤ (val x)))) rfl rfl) (aS (v := vr46) rfl (aS (v := (bd ((val y) ≤ (val x)))) rfl (RL.nil (wsr (mV (v := (bd ((val y) ≤ (val x)))) rfl (RL.nil ?_))))))))
 refine wcD (p := (val y) ≤ (val x)) rfl (fun hb54 hb54p => ?_) (fun hb54 hb54p => ?_)
 ·have hle : val y ≤ val x := hb54p
  refine wsr (rV (r_fieldAddr uT42 rfl ty4 rfl) ?_)
  replace hb4 := hb4.ext he45
  have hc55 := hb4.cell (j := 0) (u := (.bool sx)) rfl
  refine rV (r_load uT4 ag4 rfl hc55) (mV (v := vr46) rfl ?_)
  refine cL ent87 (r02_make hr47 (digs_lm _) oS (show sg sx (val (digs ((val x) - (val y)))) = zx + zy from (by rw [val_digs]; exact isub_a ex ey hs hle))) rfl ?_
  rintro _ w56 ⟨⟨vr58, rfl, hr59, hl60⟩, he57⟩
  replace hr59 := hr59.fr hE
  replace hb14 := hb14.ext (Ext.trans he45 he57)
  refine RL.runs rfl rfl (h_stA (cs := [(bd ((zx + zy) < 0)), vr58]) (o := 0) ty42 rfl rfl rfl rfl (one_cons rfl (one_cons hr59.one one_nil)) hb14 bL) ?_
  rintro w61 ⟨hn62, hx63, hz64⟩
  replace hE := (hE.nx he57).nb hx63 ge_b12
  have nb_hx63 := (Nb.of hb14 (nu_cons rfl (nu_cons rfl nu_nil)))
  replace hb14 : Bk w61 b12 42 [(bd ((zx + zy) < 0)), vr58] := hn62
  refine RL.nil ?_
  refine wret ?_
  refine ⟨[(.agg #[(bd ((zx + zy) < 0)), vr58])], ⟨⟨_, _, [(bd ((zx + zy) < 0)), vr58], rfl, ⟨_, uT42⟩, hb14.cells rfl, .inl ⟨ag42, ⟨_, _, ty42⟩, rfl⟩⟩, trivial⟩, ?_⟩
  replace hr59 := hr59.apn hx63 nb_hx63
  exact ⟨⟨_, rfl, hr59, oM⟩, hE⟩
 have hle : ¬ val y ≤ val x := hb54p
 refine wskip ?_
 refine wsr (rV (r_fieldAddr uT42 rfl ty40 rfl) ?_)
 replace hb9 := hb9.ext he45
 have hc65 := hb9.cell (j := 1) (u := vy) rfl
 refine rV (r_load uT40 ag40 rfl hc65) (rV (r_fieldAddr uT42 rfl ty40 rfl) ?_)
 replace hb4 := hb4.ext he45
 have hc66 := hb4.cell (j := 1) (u := vx) rfl
 refine rV (r_load uT40 ag40 rfl hc66) ?_
 replace hy := hy.tr (Sm.ext he45)
 replace hx := hx.tr (Sm.ext he45)
 refine cL ent119 (r01_sub hy (by assumption) oS hx (by assumption) oS) rfl ?_
 rintro vq71 w67 ⟨⟨vr69, hq72, hr70⟩, he68⟩
 have hlv73 := dl_val (x := y) (by assumption)
 have hlv74 := dl_val (x := x) (by assumption)
 have hlv75 := dl_sub (val y) (val x)
 subst hq72
 replace hr70 := hr70.fr hE
 replace hE := hE.nx he68
 refine mV (v := (.tuple #[vr69, (bd ((val x) ≤ (val y)))])) rfl (rV (r_extract (v := vr69) rfl rfl) (rV (r_extract (v := (bd ((val x) ≤ (val y)))) rfl rfl) (aS (v := vr69) rfl (aS (v := (bd ((val x) ≤ (val y)))) rfl (RL.nil (wsr (rV (r_fieldAddr uT42 rfl ty4 rfl) ?_)))))))
 replace hb9 := hb9.ext he68
 have hc76 := hb9.cell (j := 0) (u := (.bool sy)) rfl
 refine rV (r_load uT4 ag4 rfl hc76) (mV (v := vr69) rfl ?_)
 refine cL ent87 (r02_make hr70 (digs_lm _) oS (show sg sy (val (digs ((val y) - (val x)))) = zx + zy from (by rw [val_digs]; exact isub_b ex ey hs hle))) rfl ?_
 rintro _ w77 ⟨⟨vr79, rfl, hr80, hl81⟩, he78⟩
 replace hr80 := hr80.fr hE
 have hm86 := Ext.trans he45 (Ext.trans he68 he78)
 replace hb14 := hb14.ext hm86
 refine RL.runs rfl rfl (h_stA (cs := [(bd ((zx + zy) < 0)), vr79]) (o := 0) ty42 rfl rfl rfl rfl (one_cons rfl (one_cons hr80.one one_nil)) hb14 bL) ?_
 rintro w82 ⟨hn83, hx84, hz85⟩
 replace hE := (hE.nx he78).nb hx84 ge_b12
 have nb_hx84 := (Nb.of hb14 (nu_cons rfl (nu_cons rfl nu_nil)))
 replace hb14 : Bk w82 b12 42 [(bd ((zx + zy) < 0)), vr79] := hn83
 refine RL.nil ?_
 refine wret ?_
 refine ⟨[(.agg #[(bd ((zx + zy) < 0)), vr79])], ⟨⟨_, _, [(bd ((zx + zy) < 0)), vr79], rfl, ⟨_, uT42⟩, hb14.cells rfl, .inl ⟨ag42, ⟨_, _, ty42⟩, rfl⟩⟩, trivial⟩, ?_⟩
 replace hr80 := hr80.apn hx84 nb_hx84
 exact ⟨⟨_, rfl, hr80, oM⟩, hE⟩
set_option maxHeartbeats 1000000 in
theorem r02_sub {w : World} {sx : Bool} {Dx : Nat → TypeId → Prop} {vx : Value} {x : List Nat} (hx : Sg (gN .u32) Dx w vx x) (lmx : Lm x) (lnx : x.length ≤ 274877906944) {zx : Int} (ex : sg sx (val x) = zx) {sy : Bool} {Dy : Nat → TypeId → Prop} {vy : Value} {y : List Nat} (hy : Sg (gN .u32) Dy w vy y) (lmy : Lm y) (lny : y.length ≤ 274877906944) {zy : Int} (ey : sg sy (val y) = zy) :
    Calls Tryz.prog 111 #[(.agg #[(.bool sx), vx]), (.agg #[(.bool sy), vy])] w fun e w' => ∃ v, e = .returned v ∧ (∃ vr, v = .agg #[.bool (decide ((zx - zy) < 0)), vr] ∧ Sg (gN .u32) (fun b T => w.heap.size ≤ b ∧ T = 89) w' vr (digs (zx - zy).natAbs) ∧ (digs (zx - zy).natAbs).length ≤ max x.length y.length + 1) ∧ Ext w w' := by
 have hE : Below w.heap.size w w := Below.refl _ _
 have hlzx := il_le lmx ex
 have hlzy := il_le lmy ey
 refine calls_of (n := 9) (rs := [.cell 4 42]) func111 rfl rfl rfl bL ?_
 refine wset fun F0 hF0 => ?_
 refine wsr ?_
 refine rU (h_bxA (cs := [(.bool sx), vx]) (hF0 0) rfl) ?_
 rintro _ w1 ⟨b2, rfl, hs5, hb4, he3⟩
 have ge_b2 := hE.ge hs5
 replace hE := hE.nx he3
 refine rU (h_bxA (cs := [(.bool sy), vy]) (hF0 1) rfl) ?_
 rintro _ w6 ⟨b7, rfl, hs10, hb9, he8⟩
 have lt_b2_b7 := Nat.lt_of_lt_of_eq hb4.lt hs10.symm
 have ge_b7 := hE.ge hs10
 replace hE := hE.nx he8
 refine rU (h_alloc (cs := [(.bool false), (.slice none 0 0)]) ty42 rfl) ?_
 rintro _ w11 ⟨b12, rfl, hs15, hb14, he13⟩
 have lt_b7_b12 := Nat.lt_of_lt_of_eq hb9.lt hs15.symm
 have ge_b12 := hE.ge hs15
 refine RL.nil (wseq ?_)
 refine wdraw mixed fun w16 he17 => ?_
 replace hE := (hE.nx he13).nx he17
 have hm19 := Ext.trans he8 (Ext.trans he13 he17)
 replace hb4 := hb4.ext hm19
 have hc18 := hb4.cells (o := 0) (cs := [(.bool sx), vx]) rfl
 refine aR 0 rfl (fun u hu => r_loada (o := 0) (cs := [(.bool sx), vx]) uT42 ag42 ty42 rfl (fun j v hj => cell_ext hu (hc18 j v hj))) ?_
 replace hb9 := hb9.ext (Ext.trans he13 he17)
 have hc20 := hb9.cells (o := 0) (cs := [(.bool sy), vy]) rfl
 refine aR 1 rfl (fun u hu => r_loada (o := 0) (cs := [(.bool sy), vy]) uT42 ag42 ty42 rfl (fun j v hj => cell_ext hu (hc20 j v hj))) ?_
 refine RA.all [2] kR rfl ?_
 have hm26 := Ext.trans he3 (Ext.trans he8 (Ext.trans he13 he17))
 replace hy := hy.tr (Sm.ext hm26)
 refine RS.call rfl rfl rfl dC (r_call (vl := [(.agg #[(.bool sy), vy])]) ent86 rfl) (r02_neg hy (by assumption) oS (show sg sy (val y) = zy from ey)) ?_ RS.nil
 rintro _ w21 ⟨⟨vr23, rfl, hr24, hl25⟩, he22⟩
 refine rm he22 ?_
 replace hr24 := hr24.fr hE
 replace hE := hE.nx he22
 refine RA.all [3] kR rfl ?_
 have hm32 := Ext.trans hm26 he22
 replace hx := hx.tr (Sm.ext hm32)
 refine RS.call rfl rfl rfl dC (r_call (vl := [(.agg #[(.bool sx), vx]), (.agg #[(bd ((-zy) < 0)), vr23])]) ent95 rfl) (r02_add hx (by assumption) oS (show sg sx (val x) = zx from ex) hr24 (digs_lm _) oS (sg_canon _)) ?_ RS.nil
 rintro _ w27 ⟨⟨vr29, rfl, hr30, hl31⟩, he28⟩
 refine rm he28 ?_
 replace hr30 := hr30.fr hE
 refine RA.all [4] kR rfl ?_
 have hm37 := Ext.trans he17 (Ext.trans he22 he28)
 replace hb14 := hb14.ext hm37
 refine RS.runs rfl rfl rfl (h_stA (cs := [(bd ((zx + (-zy)) < 0)), vr29]) (o := 0) ty42 rfl rfl rfl rfl (one_cons rfl (one_cons hr30.one one_nil)) hb14 bL) ?_ RS.nil
 rintro w33 ⟨hn34, hx35, hz36⟩
 refine ⟨.inr (.inl kR), ?_⟩
 replace hE := (hE.nx he28).nb hx35 ge_b12
 have nb_hx35 := (Nb.of hb14 (nu_cons rfl (nu_cons rfl nu_nil)))
 replace hb14 : Bk w33 b12 42 [(bd ((zx + (-zy)) < 0)), vr29] := hn34
 refine RA.done kR ?_
 refine wret ?_
 refine ⟨[(.agg #[(bd ((zx + (-zy)) < 0)), vr29])], ⟨⟨_, _, [(bd ((zx + (-zy)) < 0)), vr29], rfl, ⟨_, uT42⟩, hb14.cells rfl, .inl ⟨ag42, ⟨_, _, ty42⟩, rfl⟩⟩, trivial⟩, ?_⟩
 rw [← Int.sub_eq_add_neg] at *
 replace hr30 := hr30.apn hx35 nb_hx35
 exact ⟨⟨_, rfl, hr30, by omega⟩, hE⟩
set_option maxHeartbeats 1000000 in
theorem r02_mul {w : World} {sx : Bool} {Dx : Nat → TypeId → Prop} {vx : Value} {x : List Nat} (hx : Sg (gN .u32) Dx w vx x) (lmx : Lm x) (lnx : x.length ≤ 274877906944) {zx : Int} (ex : sg sx (val x) = zx) {sy : Bool} {Dy : Nat → TypeId → Prop} {vy : Value} {y : List Nat} (hy : Sg (gN .u32) Dy w vy y) (lmy : Lm y) (lny : y.length ≤ 274877906944) {zy : Int} (ey : sg sy (val y) = zy) :
    Calls Tryz.prog 96 #[(.agg #[(.bool sx), vx]), (.agg #[(.bool sy), vy])] w fun e w' => ∃ v, e = .returned v ∧ (∃ vr, v = .agg #[.bool (decide ((zx * zy) < 0)), vr] ∧ Sg (gN .u32) (fun b T => w.heap.size ≤ b ∧ T = 89) w' vr (digs (zx * zy).natAbs) ∧ (digs (zx * zy).natAbs).length ≤ x.length + y.length) ∧ Ext w w' := by
 have hE : Below w.heap.size w w := Below.refl _ _
 have hlzx := il_le lmx ex
 have hlzy := il_le lmy ey
 refine calls_of (n := 16) (rs := [.cell 4 42]) func96 rfl rfl rfl bL ?_
 refine wset fun F0 hF0 => ?_
 refine wsr ?_
 refine rU (h_bxA (cs := [(.bool sx), vx]) (hF0 0) rfl) ?_
 rintro _ w1 ⟨b2, rfl, hs5, hb4, he3⟩
 have ge_b2 := hE.ge hs5
 replace hE := hE.nx he3
 refine rU (h_bxA (cs := [(.bool sy), vy]) (hF0 1) rfl) ?_
 rintro _ w6 ⟨b7, rfl, hs10, hb9, he8⟩
 have lt_b2_b7 := Nat.lt_of_lt_of_eq hb4.lt hs10.symm
 have ge_b7 := hE.ge hs10
 replace hE := hE.nx he8
 refine rU (h_alloc (cs := [(.bool false), (.slice none 0 0)]) ty42 rfl) ?_
 rintro _ w11 ⟨b12, rfl, hs15, hb14, he13⟩
 have lt_b7_b12 := Nat.lt_of_lt_of_eq hb9.lt hs15.symm
 have ge_b12 := hE.ge hs15
 refine RL.nil (wseq ?_)
 refine wdraw mixed fun w16 he17 => ?_
 replace hE := (hE.nx he13).nx he17
 refine ra 0 rfl (fun _ => r_fieldAddr uT42 rfl ty4 rfl) ?_
 have hm19 := Ext.trans he8 (Ext.trans he13 he17)
 replace hb4 := hb4.ext hm19
 have hc18 := hb4.cell (j := 0) (u := (.bool sx)) rfl
 refine aR 1 rfl (fun u hu => r_load uT4 ag4 rfl (cell_ext hu hc18)) ?_
 refine ra 2 rfl (fun _ => r_fieldAddr uT42 rfl ty4 rfl) ?_
 replace hb9 := hb9.ext (Ext.trans he13 he17)
 have hc20 := hb9.cell (j := 0) (u := (.bool sy)) rfl
 refine aR 3 rfl (fun u hu => r_load uT4 ag4 rfl (cell_ext hu hc20)) ?_
 refine ra 4 rfl (fun _ => r_neqb uT4 rfl rfl) ?_
 refine ra 5 rfl (fun _ => r_fieldAddr uT42 rfl ty40 rfl) ?_
 have hc21 := hb4.cell (j := 1) (u := vx) rfl
 refine aR 6 rfl (fun u hu => r_load uT40 ag40 rfl (cell_ext hu hc21)) ?_
 refine ra 7 rfl (fun _ => r_fieldAddr uT42 rfl ty40 rfl) ?_
 have hc22 := hb9.cell (j := 1) (u := vy) rfl
 refine aR 8 rfl (fun u hu => r_load uT40 ag40 rfl (cell_ext hu hc22)) ?_
 refine RA.all [9] kR rfl ?_
 have hm27 := Ext.trans he3 (Ext.trans he8 (Ext.trans he13 he17))
 replace hx := hx.tr (Sm.ext hm27)
 replace hy := hy.tr (Sm.ext hm27)
 refine cS ent120 (r01_mul hx (by assumption) oS hy (by assumption) oS) rfl rfl ?_ RS.nil
 rintro vr25 w23 ⟨hr26, he24⟩
 refine rm he24 ?_
 replace hr26 := hr26.fr hE
 replace hE := hE.nx he24
 have hlv28 := dl_val (x := x) (by assumption)
 have hlv29 := dl_val (x := y) (by assumption)
 have hlv30 := dl_mul (val x) (val y)
 refine RA.all [10] kR rfl ?_
 refine cS ent87 (r02_make hr26 (digs_lm _) oS (show sg (sx != sy) (val (digs ((val x) * (val y)))) = zx * zy from (by rw [val_digs, sg_mul, ex, ey]))) rfl rfl ?_ RS.nil
 rintro _ w31 ⟨⟨vr33, rfl, hr34, hl35⟩, he32⟩
 refine rm he32 ?_
 replace hr34 := hr34.fr hE
 refine RA.all [11] kR rfl ?_
 have hm40 := Ext.trans he17 (Ext.trans he24 he32)
 replace hb14 := hb14.ext hm40
 refine RS.runs rfl rfl rfl (h_stA (cs := [(bd ((zx * zy) < 0)), vr33]) (o := 0) ty42 rfl rfl rfl rfl (one_cons rfl (one_cons hr34.one one_nil)) hb14 bL) ?_ RS.nil
 rintro w36 ⟨hn37, hx38, hz39⟩
 refine ⟨.inr (.inl kR), ?_⟩
 replace hE := (hE.nx he32).nb hx38 ge_b12
 have nb_hx38 := (Nb.of hb14 (nu_cons rfl (nu_cons rfl nu_nil)))
 replace hb14 : Bk w36 b12 42 [(bd ((zx * zy) < 0)), vr33] := hn37
 refine RA.done kR ?_
 refine wret ?_
 refine ⟨[(.agg #[(bd ((zx * zy) < 0)), vr33])], ⟨⟨_, _, [(bd ((zx * zy) < 0)), vr33], rfl, ⟨_, uT42⟩, hb14.cells rfl, .inl ⟨ag42, ⟨_, _, ty42⟩, rfl⟩⟩, trivial⟩, ?_⟩
 replace hr34 := hr34.apn hx38 nb_hx38
 exact ⟨⟨_, rfl, hr34, oM⟩, hE⟩
set_option maxHeartbeats 1000000 in
theorem r02_gcd {w : World} {sx : Bool} {Dx : Nat → TypeId → Prop} {vx : Value} {x : List Nat} (hx : Sg (gN .u32) Dx w vx x) (lmx : Lm x) (lnx : x.length ≤ 274877906944) {zx : Int} (ex : sg sx (val x) = zx) {sy : Bool} {Dy : Nat → TypeId → Prop} {vy : Value} {y : List Nat} (hy : Sg (gN .u32) Dy w vy y) (lmy : Lm y) (lny : y.length ≤ 274877906944) {zy : Int} (ey : sg sy (val y) = zy) :
    Calls Tryz.prog 84 #[(.agg #[(.bool sx), vx]), (.agg #[(.bool sy), vy])] w fun e w' => ∃ v, e = .returned v ∧ (∃ vr, v = .agg #[.bool (decide (((Int.gcd zx zy : Nat) : Int) < 0)), vr] ∧ Sg (gN .u32) (fun b T => w.heap.size ≤ b ∧ T = 89) w' vr (digs ((Int.gcd zx zy : Nat) : Int).natAbs) ∧ (digs ((Int.gcd zx zy : Nat) : Int).natAbs).length ≤ max x.length y.length) ∧ Ext w w' := by
 have hE : Below w.heap.size w w := Below.refl _ _
 have hlzx := il_le lmx ex
 have hlzy := il_le lmy ey
 refine calls_of (n := 11) (rs := [.cell 4 42]) func84 rfl rfl rfl bL ?_
 refine wset fun F0 hF0 => ?_
 refine wsr ?_
 refine rU (h_bxA (cs := [(.bool sx), vx]) (hF0 0) rfl) ?_
 rintro _ w1 ⟨b2, rfl, hs5, hb4, he3⟩
 have ge_b2 := hE.ge hs5
 replace hE := hE.nx he3
 refine rU (h_bxA (cs := [(.bool sy), vy]) (hF0 1) rfl) ?_
 rintro _ w6 ⟨b7, rfl, hs10, hb9, he8⟩
 have lt_b2_b7 := Nat.lt_of_lt_of_eq hb4.lt hs10.symm
 have ge_b7 := hE.ge hs10
 replace hE := hE.nx he8
 refine rU (h_alloc (cs := [(.bool false), (.slice none 0 0)]) ty42 rfl) ?_
 rintro _ w11 ⟨b12, rfl, hs15, hb14, he13⟩
 have lt_b7_b12 := Nat.lt_of_lt_of_eq hb9.lt hs15.symm
 have ge_b12 := hE.ge hs15
 replace hE := hE.nx he13
 refine RL.nil (wsr (rV (r_fieldAddr uT42 rfl ty40 rfl) ?_))
 replace hb4 := hb4.ext (Ext.trans he8 he13)
 have hc16 := hb4.cell (j := 1) (u := vx) rfl
 refine rV (r_load uT40 ag40 rfl hc16) (rV (r_fieldAddr uT42 rfl ty40 rfl) ?_)
 replace hb9 := hb9.ext he13
 have hc17 := hb9.cell (j := 1) (u := vy) rfl
 refine rV (r_load uT40 ag40 rfl hc17) ?_
 have hm22 := Ext.trans he3 (Ext.trans he8 he13)
 replace hx := hx.tr (Sm.ext hm22)
 replace hy := hy.tr (Sm.ext hm22)
 refine cL ent108 (r01_gcd hx (by assumption) oS hy (by assumption) oS) rfl ?_
 rintro vr20 w18 ⟨hr21, he19⟩
 replace hr21 := hr21.fr hE
 replace hE := hE.nx he19
 have hlv23 := dl_val (x := x) (by assumption)
 have hlv24 := dl_val (x := y) (by assumption)
 have hlv25 := dl_gcd (val x) (val y)
 refine cL ent87 (r02_make hr21 (digs_lm _) oS (show sg false (val (digs (Nat.gcd (val x) (val y)))) = ((Int.gcd zx zy : Nat) : Int) from (by rw [val_digs, sg_f, ← ex, ← ey]; unfold Int.gcd; rw [sg_abs, sg_abs]))) rfl ?_
 rintro _ w26 ⟨⟨vr28, rfl, hr29, hl30⟩, he27⟩
 replace hr29 := hr29.fr hE
 replace hb14 := hb14.ext (Ext.trans he19 he27)
 refine RL.runs rfl rfl (h_stA (cs := [(bd (((Int.gcd zx zy : Nat) : Int) < 0)), vr28]) (o := 0) ty42 rfl rfl rfl rfl (one_cons rfl (one_cons hr29.one one_nil)) hb14 bL) ?_
 rintro w31 ⟨hn32, hx33, hz34⟩
 replace hE := (hE.nx he27).nb hx33 ge_b12
 have nb_hx33 := (Nb.of hb14 (nu_cons rfl (nu_cons rfl nu_nil)))
 replace hb14 : Bk w31 b12 42 [(bd (((Int.gcd zx zy : Nat) : Int) < 0)), vr28] := hn32
 refine RL.nil ?_
 refine wret ?_
 refine ⟨[(.agg #[(bd (((Int.gcd zx zy : Nat) : Int) < 0)), vr28])], ⟨⟨_, _, [(bd (((Int.gcd zx zy : Nat) : Int) < 0)), vr28], rfl, ⟨_, uT42⟩, hb14.cells rfl, .inl ⟨ag42, ⟨_, _, ty42⟩, rfl⟩⟩, trivial⟩, ?_⟩
 replace hr29 := hr29.apn hx33 nb_hx33
 exact ⟨⟨_, rfl, hr29, oM⟩, hE⟩
end Go.Proofs.YtelbjmhhbeijkaaGreat
namespace Go.Proofs.YtelbjmhhbeijkaaGreat
open Go.Vg Go.RowKit _root_.Go.Proofs.Tryz
set_option linter.unusedVariables false
open Go.Vm
theorem word_shl {k x : Nat} (hk : k ≤ 1) (hx : x < 4294967296) : IntKind.u64.wrap ((x : Int) * 2 ^ (min (((32 : Int) * (k : Nat)).toNat) IntKind.u64.bits)) = ((4294967296 ^ k * x : Nat) : Int) := by
  rcases Nat.le_one_iff_eq_zero_or_eq_one.1 hk with rfl | rfl
  · show IntKind.u64.wrap ((x : Int) * 2 ^ 0) = _
    rw [Int.pow_zero, Int.mul_one, wu64 oM]
    simp
  have h := shl32 hx
  rw [Nat.pow_one, Nat.mul_comm]
  exact h
theorem word_or {k x : Nat} {P : List Nat} (hk : k ≤ 1) (hP : Lm P) (hl : P.length = k) (hx : x < 4294967296) : IntKind.u64.wrap ((BitVec.ofInt IntKind.u64.bits ((val P : Nat) : Int) ||| BitVec.ofInt IntKind.u64.bits ((4294967296 ^ k * x : Nat) : Int)).toNat : Int) = ((val P + 4294967296 ^ k * x : Nat) : Int) := by
  rcases Nat.le_one_iff_eq_zero_or_eq_one.1 hk with rfl | rfl
  · have : P = [] := List.eq_nil_of_length_eq_zero hl
    subst this
    have h := or32 (x := 0) (y := x) dC hx
    simp only [Nat.zero_mul, Nat.zero_add] at h
    rw [Nat.pow_zero, Nat.one_mul]
    exact h.trans (by simp [val])
  have hv := val_lt hP
  rw [hl, Nat.pow_one] at hv
  have h := or32 (x := x) (y := val P) hx hv
  rw [Nat.pow_one, Nat.mul_comm 4294967296 x, Nat.add_comm]
  rw [← h]
  congr 2
  exact congrArg BitVec.toNat (BitVec.or_comm _ _)
set_option maxHeartbeats 1000000 in
theorem n_cut {w : World} {Dx : Nat → TypeId → Prop} {vx : Value} {x : List Nat} (hx : Sg (gN .u32) Dx w vx x) (lmx : Lm x) (lnx : x.length ≤ 35184372088832) :
    Calls Tryz.prog 100 #[vx] w fun e w' => ∃ v, e = .returned v ∧ Sg (gN .u32) Dx w' v (digs (val x)) ∧ w = w' := by
 have hw : w = w := rfl
 refine calls_of (n := 21) (rs := [.tmp 2]) func100 rfl rfl rfl bL ?_
 refine wset fun F0 hF0 => ?_
 refine wsr (aS (v := (.slice none (0) (0))) rfl (RL.nil (wsr (mV (v := vx) (hF0 0) ?_))))
 obtain ⟨A1, c2, hv3, hc4, hc5⟩ := hx.len
 refine rV (r_len uT40 hv3) (aS (v := (iv (x.length : Nat))) rfl (RL.nil (wseq ?_)))
 refine wblock ?_
 refine wset fun F6 hF7 => ?_
 refine wloop (σ := Nat) (fun (n : Nat) fl wl => Off (3 :: (rg 6 12 [])) F6 fl ∧ fl 3 = (iv n) ∧ (n ≤ x.length) ∧ (val (x.take n) = val x) ∧ (Sg (gN .u32) Dx wl vx x) ∧ (w = wl)) (fun (n : Nat) => n) (x.length) ?_ ?_
 ·exact ⟨Off.refl _ _, (hF7 3).trans (rfl), Nat.le_refl _, by rw [List.take_of_length_le (Nat.le_refl _)], hx, hw⟩
 clear hx
 rintro n f8 w9 ⟨G10, hs11, hn, hv, hx, hw⟩
 refine wseq (wsr (mV hs11 (rV (r_gtr (k := .i64) (a := (n : Int)) (b := 0) rfl rfl) (mV (v := (bd (0 < (n : Int)))) rfl ?_))))
 rcases bD (0 < (n : Int)) with ⟨hb12, hb12p⟩ | ⟨hb12, hb12p⟩
 ·refine RL.gval rfl rfl (bool_eq hb12) rfl dC (r_move_as (v := vx) ((G10 0 rfl).trans ((hF7 0).trans (hF0 0)))) ?_
  refine RL.gval rfl rfl (bool_eq hb12) rfl dC (r_move_as (v := (iv n)) hs11) ?_
  refine RL.gval rfl rfl (bool_eq hb12) rfl dC (r_sub (k := .i64) (a := (n : Int)) (b := 1) (c := (n : Int) - 1) rfl rfl (wi64 oM)) ?_
  obtain ⟨b13, o14, c15, hv16, hc17⟩ := hx.ix (i := (n : Int) - 1) (n - 1) oM oM
  refine RL.gval rfl rfl (bool_eq hb12) rfl dC (r_indexAddr (i := (n : Int) - 1) uT40 ty89 hv16 rfl oM oM) ?_
  refine RL.gval rfl rfl (bool_eq hb12) rfl dC (r_load (v := (.int .u32 (((x.getD (n - 1) default : Nat) : Int)))) uT89 ag89 rfl hc17) ?_
  refine RL.gval rfl rfl (bool_eq hb12) rfl dC (r_eql (k := .u32) (a := ((x.getD (n - 1) default : Nat) : Int)) (b := 0) rfl rfl) ?_
  refine rV (r_pick_t (v := (bd (((x.getD (n - 1) default : Nat) : Int) = 0))) (bool_eq hb12) rfl) (RL.nil ?_)
  refine wcD (p := ((x.getD (n - 1) default : Nat) : Int) = 0) rfl (fun hb18 hb18p => ?_) (fun hb18 hb18p => ?_)
  ·refine wskip ?_
   refine wblock ?_
   refine wregion (mV hs11 (rV (r_sub (k := .i64) (a := (n : Int)) (b := 1) (c := (n : Int) - 1) rfl rfl (wi64 oM)) (aS (v := (iv ((n : Int) - 1))) rfl (RL.nil ?_))))
   refine ⟨(n - 1), ⟨?_, ?_, ?_, ?_, ?_, ?_⟩, ?_⟩
   · exact (by repeat (first | exact G10 | refine Off.st ?_ dC _))
   · first | rfl | exact int_eq oM | exact bool_eq (by simp)
   · omega
   · exact trim_step hn oM hv oM
   · exact hx
   · exact hw
   (try dsimp only)
   omega
  have hend : n = 0 ∨ x.getD (n - 1) default ≠ 0 := .inr oM
  refine wexit ?_
  refine wsr (mV (v := vx) ((G10 0 rfl).trans ((hF7 0).trans (hF0 0))) (mV hs11 ?_))
  have r19 := hx.take (n) oM hv3
  refine rV (r_sh (h := (n : Int)) (kk := n) uT40 ty89 hv3 rfl oM oM) (aS (v := (.slice A1 (n) (c2))) rfl (RL.nil ?_))
  refine wret ?_
  refine ⟨[(.slice A1 (n) (c2))], ⟨rfl, trivial⟩, ?_⟩
  rw [trim_digs lmx hn hv hend] at r19
  exact ⟨r19, hw⟩
 have hend : n = 0 ∨ x.getD (n - 1) default ≠ 0 := .inl oM
 refine RL.gno rfl rfl (bool_eq hb12) rfl dC ?_
 refine RL.gno rfl rfl (bool_eq hb12) rfl dC ?_
 refine RL.gno rfl rfl (bool_eq hb12) rfl dC ?_
 refine RL.gno rfl rfl (bool_eq hb12) rfl dC ?_
 refine RL.gno rfl rfl (bool_eq hb12) rfl dC ?_
 refine RL.gno rfl rfl (bool_eq hb12) rfl dC ?_
 refine rV (r_pick_f (v := (.bool false)) (bool_eq hb12) rfl) (RL.nil ?_)
 refine wcond_f rfl ?_
 refine wexit ?_
 refine wsr (mV (v := vx) ((G10 0 rfl).trans ((hF7 0).trans (hF0 0))) (mV hs11 ?_))
 have r20 := hx.take (n) oM hv3
 refine rV (r_sh (h := (n : Int)) (kk := n) uT40 ty89 hv3 rfl oM oM) (aS (v := (.slice A1 (n) (c2))) rfl (RL.nil ?_))
 refine wret ?_
 refine ⟨[(.slice A1 (n) (c2))], ⟨rfl, trivial⟩, ?_⟩
 rw [trim_digs lmx hn hv hend] at r20
 exact ⟨r20, hw⟩
set_option maxHeartbeats 1000000 in
theorem n_word {w : World} {Dx : Nat → TypeId → Prop} {vx : Value} {x : List Nat} (hx : Sg (gN .u32) Dx w vx x) (lmx : Lm x) (lnx : x.length ≤ 2) :
    Calls Tryz.prog 113 #[vx] w fun e w' => ∃ v, e = .returned v ∧ v = .int .u64 ((val x : Nat) : Int) ∧ w = w' := by
 have hw : w = w := rfl
 refine calls_of (n := 22) (rs := [.tmp 2]) func113 rfl rfl rfl bL ?_
 refine wset fun F0 hF0 => ?_
 refine wsr (aS (v := (.int .u64 0)) rfl (RL.nil (wsr (aS (v := (.int .u64 0)) rfl (RL.nil (wseq (wsr (mV (v := vx) (hF0 0) ?_))))))))
 obtain ⟨A1, c2, hv3, hc4, hc5⟩ := hx.len
 refine rV (r_len uT40 hv3) (mV (v := (iv 0)) rfl (RL.nil ?_))
 refine wblock ?_
 refine wset fun F6 hF7 => ?_
 refine wloop (σ := Nat) (fun (k : Nat) fl wl => Off (rg 3 3 (rg 8 13 [])) F6 fl ∧ fl 8 = (iv k) ∧ fl 3 = (.int .u64 (((val (x.take k) : Nat) : Int))) ∧ (k ≤ x.length) ∧ (Sg (gN .u32) Dx wl vx x) ∧ (w = wl)) (fun (k : Nat) => x.length - k) (0) ?_ ?_
 ·exact ⟨Off.refl _ _, (hF7 8).trans (rfl), (hF7 3).trans ((int_eq (by simp [val]))), Nat.zero_le _, hx, hw⟩
 clear hx
 rintro k f8 w9 ⟨G10, hs11, hs12, hk, hx, hw⟩
 refine wsr (rV (r_lss (k := .i64) (a := (k : Int)) (b := ((x.length : Nat) : Int)) hs11 ((G10 7 rfl).trans (hF7 7))) (RL.nil (wseq ?_)))
 refine wcD (p := (k : Int) < ((x.length : Nat) : Int)) rfl (fun hb13 hb13p => ?_) (fun hb13 hb13p => ?_)
 ·refine wskip ?_
  refine wseq ?_
  refine wblock ?_
  refine wseq ?_
  have hkl : k < x.length := by omega
  have hxk := lmx.at hkl
  refine wregion (mV hs11 ?_)
  obtain ⟨b14, o15, c16, hv17, hc18⟩ := hx.ix (i := (k : Int)) (k) oM oM
  refine rV (r_indexAddr (i := (k : Int)) uT40 ty89 ((((G10 6 rfl).trans (hF7 6))).trans hv17) hs11 oM oM) (rV (r_load (v := (.int .u32 (((x.getD (k) default : Nat) : Int)))) uT89 ag89 rfl hc18) (aS (v := (iv k)) rfl (aS (v := (.int .u32 (((x.getD (k) default : Nat) : Int)))) rfl (RL.nil (wregion (mV hs12 (mV (v := (.int .u32 (((x.getD (k) default : Nat) : Int)))) rfl (rV (r_conv (k := .u64) (a := ((x.getD (k) default : Nat) : Int)) (c := ((x.getD (k) default : Nat) : Int)) uT89 uT73 rfl (wu64 oM)) (mV (v := (iv k)) rfl (rV (r_mul (k := .i64) (a := 32) (b := (k : Int)) (c := 32 * (k : Int)) rfl rfl (wi64 oM)) (rV (r_shl (k := .u64) (a := ((x.getD (k) default : Nat) : Int)) (b := 32 * (k : Int)) (c := ((4294967296 ^ k * x.getD k default : Nat) : Int)) rfl rfl oM (word_shl oM hxk)) (rV (r_or (k := .u64) (a := ((val (x.take k) : Nat) : Int)) (b := ((4294967296 ^ k * x.getD k default : Nat) : Int)) (c := ((val (x.take k) + 4294967296 ^ k * x.getD k default : Nat) : Int)) rfl rfl (word_or oM (lmx.take k) (by rw [List.length_take]; omega) hxk)) (aS (v := (.int .u64 (((val (x.take k) + 4294967296 ^ k * x.getD k default : Nat) : Int)))) rfl (RL.nil (wregion (rV (r_add (k := .i64) (a := (k : Int)) (b := 1) (c := (k : Int) + 1) hs11 rfl (wi64 oM)) (mV (v := (iv ((k : Int) + 1))) rfl (RL.nil ?_))))))))))))))))))
  refine ⟨(k + 1), ⟨?_, ?_, ?_, ?_, ?_, ?_⟩, ?_⟩
  · exact (by repeat (first | exact G10 | refine Off.st ?_ dC _))
  · first | rfl | exact int_eq oM | exact bool_eq (by simp)
  · exact int_eq (by rw [val_take_succ hkl])
  · omega
  · exact hx
  · exact hw
  (try dsimp only)
  omega
 refine wexit ?_
 refine wsr (mV hs12 (aS (v := (.int .u64 (((val (x.take k) : Nat) : Int)))) rfl (RL.nil ?_)))
 refine wret ?_
 refine ⟨[(.int .u64 (((val (x.take k) : Nat) : Int)))], ⟨rfl, trivial⟩, ?_⟩
 rw [List.take_of_length_le (show x.length ≤ k by omega)]
 exact ⟨rfl, hw⟩
set_option maxHeartbeats 1000000 in
theorem n_trim {w : World} {Dx : Nat → TypeId → Prop} {vx : Value} {x : List Nat} (hx0 : Sg (gN .u32) Dx w vx x) (lmx : Lm x) (lnx : x.length ≤ 17592186044416) :
    Calls Tryz.prog 92 #[vx] w fun e w' => ∃ v, e = .returned v ∧ Sg (gN .u32) (fun b T => w.heap.size ≤ b ∧ T = 89) w' v (digs (val x)) ∧ Ext w w' := by
 have hE : Below w.heap.size w w := Below.refl _ _
 have hx := hx0.old
 clear hx0
 have hlvx := dl_val lmx
 refine calls_of (n := 13) (rs := [.tmp 2]) func92 rfl rfl rfl bL ?_
 refine wset fun F0 hF0 => ?_
 refine wsr (aS (v := (.slice none (0) (0))) rfl (RL.nil (wsr (mV (v := vx) (hF0 0) ?_))))
 refine cL ent100 (n_cut hx (by assumption) (by first | omega | (simp; done) | (simp; omega))) rfl ?_
 rintro vr2 _ ⟨hr3, rfl⟩
 have hlv4 := dl_val (x := x) (by assumption)
 refine aS (v := vr2) rfl (RL.nil (wsr (mV (v := vr2) rfl ?_)))
 obtain ⟨A5, c6, hv7, hc8, hc9⟩ := hr3.len
 refine rV (r_len uT40 hv7) ?_
 have hn15 : ((((digs (val x)).length : Nat) : Int) : Int) = (((digs (val x)).length : Nat) : Int) := by omega
 refine rU (h_make1 (n := (digs (val x)).length) uT40 ty89 rfl (int_eq hn15) (int_eq hn15) oM oM) ?_
 rintro _ w10 ⟨b11, rfl, hs14, hb13, he12⟩
 have ge_b11 := hE.ge hs14
 replace hb13 := Ar.made (g := (gN .u32)) (z := (0 : Nat)) hb13 rfl
 have hb13l := hb13.lt
 refine aS (v := (.slice (some ⟨b11, 0, none⟩) ((digs (val x)).length) ((digs (val x)).length))) rfl (RL.nil (wsr (mV (v := (.slice (some ⟨b11, 0, none⟩) ((digs (val x)).length) ((digs (val x)).length))) rfl (mV (v := vr2) rfl ?_))))
 replace hr3 := hr3.tr (Sm.ext he12)
 refine rU (h_copyA (g := (gN .u32)) uT40 ty89 rfl rfl hb13 hr3 oM (fun _ => rfl)) ?_
 rintro _ w16 ⟨rfl, ha17, hx18⟩
 replace hE := (hE.nx he12).nb hx18 ge_b11
 replace hb13 := ha17
 refine RL.nil (wsr (mV (v := (.slice (some ⟨b11, 0, none⟩) ((digs (val x)).length) ((digs (val x)).length))) rfl (aS (v := (.slice (some ⟨b11, 0, none⟩) ((digs (val x)).length) ((digs (val x)).length))) rfl (RL.nil ?_))))
 refine wret ?_
 refine ⟨[(.slice (some ⟨b11, 0, none⟩) ((digs (val x)).length) ((digs (val x)).length))], ⟨rfl, trivial⟩, ?_⟩
 exact ⟨(hb13.sc (D := (fun b T => w.heap.size ≤ b ∧ T = 89)) (Nat.le_refl _) oM ⟨ge_b11, rfl⟩), hE⟩
set_option maxHeartbeats 1000000 in
theorem n_from {w : World} {x : Nat} (hx : x < 18446744073709551616) :
    Calls Tryz.prog 90 #[(.int .u64 (x : Int))] w fun e w' => ∃ v, e = .returned v ∧ Sg (gN .u32) (fun b T => w.heap.size ≤ b ∧ T = 89) w' v (digs (x)) ∧ Ext w w' := by
 have hE : Below w.heap.size w w := Below.refl _ _
 refine calls_of (n := 10) (rs := [.tmp 2]) func90 rfl rfl rfl bL ?_
 refine wset fun F0 hF0 => ?_
 refine wsr (aS (v := (.slice none (0) (0))) rfl (RL.nil (wsr (mV (v := (.int .u64 (x : Int))) (hF0 0) (rV (r_conv (k := .u32) (a := (x : Int)) (c := ((x % 4294967296 : Nat) : Int)) uT73 uT89 rfl (cu32 _)) (mV (v := (.int .u64 (x : Int))) (hF0 0) (rV (r_shr (k := .u64) (a := (x : Int)) (b := 32) (c := ((x / 4294967296 : Nat) : Int)) rfl rfl dC (shr32 _)) (rV (r_conv (k := .u32) (a := ((x / 4294967296 : Nat) : Int)) (c := (((x / 4294967296) % 4294967296 : Nat) : Int)) uT73 uT89 rfl (cu32 _)) ?_))))))))
 refine rU (h_lit (vl := [(0, (.int .u32 (((x % 4294967296 : Nat) : Int)))), (1, (.int .u32 ((((x / 4294967296) % 4294967296 : Nat) : Int))))]) (cs := [(.int .u32 (((x % 4294967296 : Nat) : Int))), (.int .u32 ((((x / 4294967296) % 4294967296 : Nat) : Int)))]) uT40 ty89 rfl dC (by first | (simp [Instr.fill, Value.cells]; done) | rfl | kernel_rfl)) ?_
 rintro _ w1 ⟨b2, rfl, hs5, hb4, he3⟩
 have ge_b2 := hE.ge hs5
 replace hE := hE.nx he3
 have hlm := Lm.two hx
 refine cL (vl := [(.slice (some ⟨b2, 0, none⟩) (2) (2))]) ent100 (n_cut (hb4.sg (g := gN .u32) (D := (fun b T => w.heap.size ≤ b ∧ T = 89)) (xs := [x % 4294967296, (x / 4294967296) % 4294967296]) ⟨ge_b2, rfl⟩ rfl rfl dC) (by first | assumption | (intro z hz; simp at hz; omega)) (by first | omega | (simp; done) | (simp; omega))) rfl ?_
 rintro vr7 _ ⟨hr8, rfl⟩
 have hlv9 := dl_val (x := [x % 4294967296, (x / 4294967296) % 4294967296]) (by first | assumption | (intro z hz; simp at hz; omega))
 refine aS (v := vr7) rfl (RL.nil ?_)
 refine wret ?_
 refine ⟨[vr7], ⟨rfl, trivial⟩, ?_⟩
 have hres := hr8
 rw [Nat.mod_eq_of_lt (show x / 4294967296 < 4294967296 by omega), val_two] at hres
 exact ⟨hres, hE⟩
set_option maxHeartbeats 1000000 in
theorem n_uint {w : World} {Dx : Nat → TypeId → Prop} {vx : Value} {x : List Nat} (hx0 : Sg (gN .u32) Dx w vx x) (lmx : Lm x) (lnx : x.length ≤ 1099511627776) :
    Calls Tryz.prog 89 #[vx] w fun e w' => ∃ v, e = .returned v ∧ v = .tuple #[.int .u64 ((if val x < 18446744073709551616 then val x else 0 : Nat) : Int), .bool (decide (val x < 18446744073709551616))] ∧ Ext w w' := by
 have hE : Below w.heap.size w w := Below.refl _ _
 have hx := hx0.old
 clear hx0
 have hlvx := dl_val lmx
 refine calls_of (n := 11) (rs := [.tmp 2, .tmp 3]) func89 rfl rfl rfl bL ?_
 refine wset fun F0 hF0 => ?_
 refine wsr (aS (v := (.int .u64 0)) rfl (aS (v := (.bool false)) rfl (RL.nil (wsr (mV (v := vx) (hF0 0) ?_)))))
 refine cL ent100 (n_cut hx (by assumption) (by first | omega | (simp; done) | (simp; omega))) rfl ?_
 rintro vr2 _ ⟨hr3, rfl⟩
 have hlv4 := dl_val (x := x) (by assumption)
 refine aS (v := vr2) rfl (RL.nil (wseq (wseq ?_)))
 have hl64 := len_u64 (n := val x)
 rw [← len_digs] at hl64
 refine wregion (mV (v := vr2) rfl ?_)
 obtain ⟨A5, c6, hv7, hc8, hc9⟩ := hr3.len
 refine rV (r_len uT40 hv7) (rV (r_gtr (k := .i64) (a := (((digs (val x)).length : Nat) : Int)) (b := 2) rfl rfl) (RL.nil ?_))
 refine wcD (p := 2 < (((digs (val x)).length : Nat) : Int)) rfl (fun hb10 hb10p => ?_) (fun hb10 hb10p => ?_)
 ·refine wsr ?_
  refine aS (v := (.int .u64 0)) rfl (aS (v := (.bool false)) rfl (RL.nil ?_))
  refine wret ?_
  refine ⟨[(.int .u64 0), (.bool false)], ⟨rfl, ⟨rfl, trivial⟩⟩, ?_⟩
  exact ⟨by rw [if_neg oM, decide_eq_false oM]; rfl, hE⟩
 refine wskip ?_
 refine wsr (mV (v := vr2) rfl ?_)
 refine cL ent113 (n_word hr3 (digs_lm _) oM) rfl ?_
 rintro vq13 _ ⟨hq12, rfl⟩
 rw [val_digs] at hq12
 subst hq12
 refine aS (v := (.int .u64 ((((val x) : Nat) : Int)))) rfl (aS (v := (.bool true)) rfl (RL.nil ?_))
 refine wret ?_
 refine ⟨[(.int .u64 ((((val x) : Nat) : Int))), (.bool true)], ⟨rfl, ⟨rfl, trivial⟩⟩, ?_⟩
 exact ⟨by rw [if_pos oM, decide_eq_true oM]; rfl, hE⟩
set_option maxHeartbeats 1000000 in
theorem n_compare {w : World} {Dx : Nat → TypeId → Prop} {vx : Value} {x : List Nat} (hx0 : Sg (gN .u32) Dx w vx x) (lmx : Lm x) (lnx : x.length ≤ 1099511627776) {Dy : Nat → TypeId → Prop} {vy : Value} {y : List Nat} (hy0 : Sg (gN .u32) Dy w vy y) (lmy : Lm y) (lny : y.length ≤ 1099511627776) :
    Calls Tryz.prog 67 #[vx, vy] w fun e w' => ∃ v, e = .returned v ∧ v = .int .i64 (cmpI ((val x : Nat) : Int) ((val y : Nat) : Int)) ∧ Ext w w' := by
 have hE : Below w.heap.size w w := Below.refl _ _
 have hx := hx0.old
 clear hx0
 have hy := hy0.old
 clear hy0
 have hlvx := dl_val lmx
 have hlvy := dl_val lmy
 refine calls_of (n := 45) (rs := [.tmp 4]) func67 rfl rfl rfl bL ?_
 refine wset fun F0 hF0 => ?_
 refine wsr (aS (v := (iv 0)) rfl (RL.nil (wsr (mV (v := vx) (hF0 0) ?_))))
 refine cL ent100 (n_cut hx (by assumption) (by first | omega | (simp; done) | (simp; omega))) rfl ?_
 rintro vr2 _ ⟨hr3, rfl⟩
 have hlv4 := dl_val (x := x) (by assumption)
 refine mV (v := vy) (hF0 1) ?_
 refine cL ent100 (n_cut hy (by assumption) (by first | omega | (simp; done) | (simp; omega))) rfl ?_
 rintro vr6 _ ⟨hr7, rfl⟩
 have hlv8 := dl_val (x := y) (by assumption)
 refine aS (v := vr2) rfl (aS (v := vr6) rfl (RL.nil (wseq (wsr (mV (v := vr2) rfl ?_)))))
 obtain ⟨A9, c10, hv11, hc12, hc13⟩ := hr3.len
 refine rV (r_len uT40 hv11) (mV (v := vr6) rfl ?_)
 obtain ⟨A14, c15, hv16, hc17, hc18⟩ := hr7.len
 refine rV (r_len uT40 hv16) (rV (r_neq (k := .i64) (a := (((digs (val x)).length : Nat) : Int)) (b := (((digs (val y)).length : Nat) : Int)) rfl rfl) (RL.nil ?_))
 refine wcD (p := (((digs (val x)).length : Nat) : Int) ≠ (((digs (val y)).length : Nat) : Int)) rfl (fun hb19 hb19p => ?_) (fun hb19 hb19p => ?_)
 ·refine wseq ?_
  refine wsr (mV (v := vr2) rfl (rV (r_len uT40 hv11) (mV (v := vr6) rfl (rV (r_len uT40 hv16) (rV (r_lss (k := .i64) (a := (((digs (val x)).length : Nat) : Int)) (b := (((digs (val y)).length : Nat) : Int)) rfl rfl) (RL.nil ?_))))))
  refine wcD (p := (((digs (val x)).length : Nat) : Int) < (((digs (val y)).length : Nat) : Int)) rfl (fun hb20 hb20p => ?_) (fun hb20 hb20p => ?_)
  ·refine wsr ?_
   refine aS (v := (iv (-1))) rfl (RL.nil ?_)
   refine wret ?_
   refine ⟨[(iv (-1))], ⟨rfl, trivial⟩, ?_⟩
   have hlt : val x < val y := by first | exact len_lt_of (by rw [← len_digs, ← len_digs]; omega) | (have h := cmp_at (a := digs (val x)) (b := digs (val y)) (m := n - 1) (digs_lm (val x)) oM oM (by rw [show n - 1 + 1 = n by omega]; exact hd) oM; rw [val_digs, val_digs] at h; exact h)
   exact ⟨int_eq (by unfold cmpI; rw [if_pos oM]), hE⟩
  refine wskip ?_
  refine wsr (aS (v := (iv 1)) rfl (RL.nil ?_))
  refine wret ?_
  refine ⟨[(iv 1)], ⟨rfl, trivial⟩, ?_⟩
  have hlt : val y < val x := by first | exact len_lt_of (by rw [← len_digs, ← len_digs]; omega) | (have h := cmp_at (a := digs (val y)) (b := digs (val x)) (m := n - 1) (digs_lm (val y)) oM oM (by rw [show n - 1 + 1 = n by omega]; exact hd.symm) oM; rw [val_digs, val_digs] at h; exact h)
  exact ⟨int_eq (by unfold cmpI; rw [if_neg oM, if_pos oM]), hE⟩
 refine wskip ?_
 refine wseq (wsr (mV (v := vr2) rfl (rV (r_len uT40 hv11) (rV (r_sub (k := .i64) (a := (((digs (val x)).length : Nat) : Int)) (b := 1) (c := (((digs (val x)).length : Nat) : Int) - 1) rfl rfl (wi64 oM)) (aS (v := (iv ((((digs (val x)).length : Nat) : Int) - 1))) rfl (RL.nil ?_))))))
 refine wblock ?_
 refine wset fun F21 hF22 => ?_
 refine wloop (σ := Nat) (fun (n : Nat) fl wl => Off (rg 4 2 (rg 23 22 [])) F21 fl ∧ fl 5 = (iv ((n : Int) - 1)) ∧ (n ≤ (digs (val x)).length) ∧ ((digs (val x)).drop n = (digs (val y)).drop n) ∧ (Sg (gN .u32) (fun b T => Dx b T ∧ b < w.heap.size) wl vx x) ∧ (Sg (gN .u32) (fun b T => Dy b T ∧ b < w.heap.size) wl vy y) ∧ (Below w.heap.size w wl) ∧ (Sg (gN .u32) (fun b T => Dx b T ∧ b < w.heap.size) wl vr2 (digs (val x))) ∧ (Sg (gN .u32) (fun b T => Dy b T ∧ b < w.heap.size) wl vr6 (digs (val y)))) (fun (n : Nat) => n) ((digs (val x)).length) ?_ ?_
 ·exact ⟨Off.refl _ _, (hF22 5).trans (rfl), Nat.le_refl _, (by rw [List.drop_of_length_le (Nat.le_refl _), List.drop_of_length_le oM]), hx, hy, hE, hr3, hr7⟩
 clear hx hy hE hr3 hr7
 rintro n f23 w24 ⟨G25, hs26, hn, hd, hx, hy, hE, hr3, hr7⟩
 refine wseq (wsr (mV hs26 (rV (r_geq (k := .i64) (a := (n : Int) - 1) (b := 0) rfl rfl) (RL.nil ?_))))
 refine wcD (p := 0 ≤ ((n : Int) - 1)) rfl (fun hb27 hb27p => ?_) (fun hb27 hb27p => ?_)
 ·refine wskip ?_
  refine wseq ?_
  refine wblock ?_
  refine wseq (wseq ?_)
  refine wdraw mixed fun w28 he29 => ?_
  replace hE := hE.nx he29
  refine aM 0 rfl (v := vr2) ((G25 0 rfl).trans (hF22 0)) ?_
  refine aM 1 rfl (v := (iv ((n : Int) - 1))) hs26 ?_
  replace hr3 := hr3.tr (Sm.ext he29)
  obtain ⟨b30, o31, c32, hv33, hc34⟩ := hr3.ix (i := (n : Int) - 1) (n - 1) oM oM
  refine ra 2 rfl (fun _ => r_indexAddr (i := (n : Int) - 1) uT40 ty89 hv33 rfl oM oM) ?_
  refine aR 3 rfl (fun u hu => r_load (v := (.int .u32 ((((digs (val x)).getD (n - 1) default : Nat) : Int)))) uT89 ag89 rfl (cell_ext hu hc34)) ?_
  refine aM 4 rfl (v := vr6) ((G25 1 rfl).trans (hF22 1)) ?_
  refine aM 5 rfl (v := (iv ((n : Int) - 1))) hs26 ?_
  replace hr7 := hr7.tr (Sm.ext he29)
  obtain ⟨b35, o36, c37, hv38, hc39⟩ := hr7.ix (i := (n : Int) - 1) (n - 1) oM oM
  refine ra 6 rfl (fun _ => r_indexAddr (i := (n : Int) - 1) uT40 ty89 hv38 rfl oM oM) ?_
  refine aR 7 rfl (fun u hu => r_load (v := (.int .u32 ((((digs (val y)).getD (n - 1) default : Nat) : Int)))) uT89 ag89 rfl (cell_ext hu hc39)) ?_
  refine ra 8 rfl (fun _ => r_lss (k := .u32) (a := (((digs (val x)).getD (n - 1) default : Nat) : Int)) (b := (((digs (val y)).getD (n - 1) default : Nat) : Int)) rfl rfl) ?_
  refine RA.done kR ?_
  refine wcD (p := (((digs (val x)).getD (n - 1) default : Nat) : Int) < (((digs (val y)).getD (n - 1) default : Nat) : Int)) rfl (fun hb40 hb40p => ?_) (fun hb40 hb40p => ?_)
  ·refine wsr ?_
   refine aS (v := (iv (-1))) rfl (RL.nil ?_)
   refine wret ?_
   refine ⟨[(iv (-1))], ⟨rfl, trivial⟩, ?_⟩
   have hlt : val x < val y := by first | exact len_lt_of (by rw [← len_digs, ← len_digs]; omega) | (have h := cmp_at (a := digs (val x)) (b := digs (val y)) (m := n - 1) (digs_lm (val x)) oM oM (by rw [show n - 1 + 1 = n by omega]; exact hd) oM; rw [val_digs, val_digs] at h; exact h)
   exact ⟨int_eq (by unfold cmpI; rw [if_pos oM]), hE⟩
  refine wskip ?_
  refine wseq ?_
  refine wdraw mixed fun w41 he42 => ?_
  replace hE := hE.nx he42
  refine aM 0 rfl (v := vr2) ((G25 0 rfl).trans (hF22 0)) ?_
  refine aM 1 rfl (v := (iv ((n : Int) - 1))) hs26 ?_
  replace hr3 := hr3.tr (Sm.ext he42)
  obtain ⟨b43, o44, c45, hv46, hc47⟩ := hr3.ix (i := (n : Int) - 1) (n - 1) oM oM
  refine ra 2 rfl (fun _ => r_indexAddr (i := (n : Int) - 1) uT40 ty89 hv46 rfl oM oM) ?_
  refine aR 3 rfl (fun u hu => r_load (v := (.int .u32 ((((digs (val x)).getD (n - 1) default : Nat) : Int)))) uT89 ag89 rfl (cell_ext hu hc47)) ?_
  refine aM 4 rfl (v := vr6) ((G25 1 rfl).trans (hF22 1)) ?_
  refine aM 5 rfl (v := (iv ((n : Int) - 1))) hs26 ?_
  replace hr7 := hr7.tr (Sm.ext he42)
  obtain ⟨b48, o49, c50, hv51, hc52⟩ := hr7.ix (i := (n : Int) - 1) (n - 1) oM oM
  refine ra 6 rfl (fun _ => r_indexAddr (i := (n : Int) - 1) uT40 ty89 hv51 rfl oM oM) ?_
  refine aR 7 rfl (fun u hu => r_load (v := (.int .u32 ((((digs (val y)).getD (n - 1) default : Nat) : Int)))) uT89 ag89 rfl (cell_ext hu hc52)) ?_
  refine ra 8 rfl (fun _ => r_gtr (k := .u32) (a := (((digs (val x)).getD (n - 1) default : Nat) : Int)) (b := (((digs (val y)).getD (n - 1) default : Nat) : Int)) rfl rfl) ?_
  refine RA.done kR ?_
  refine wcD (p := (((digs (val y)).getD (n - 1) default : Nat) : Int) < (((digs (val x)).getD (n - 1) default : Nat) : Int)) rfl (fun hb53 hb53p => ?_) (fun hb53 hb53p => ?_)
  ·refine wsr ?_
   refine aS (v := (iv 1)) rfl (RL.nil ?_)
   refine wret ?_
   refine ⟨[(iv 1)], ⟨rfl, trivial⟩, ?_⟩
   have hlt : val y < val x := by first | exact len_lt_of (by rw [← len_digs, ← len_digs]; omega) | (have h := cmp_at (a := digs (val y)) (b := digs (val x)) (m := n - 1) (digs_lm (val y)) oM oM (by rw [show n - 1 + 1 = n by omega]; exact hd.symm) oM; rw [val_digs, val_digs] at h; exact h)
   exact ⟨int_eq (by unfold cmpI; rw [if_neg oM, if_pos oM]), hE⟩
  refine wskip ?_
  refine wregion (mV hs26 (rV (r_sub (k := .i64) (a := (n : Int) - 1) (b := 1) (c := ((n : Int) - 1) - 1) rfl rfl (wi64 oM)) (aS (v := (iv (((n : Int) - 1) - 1))) rfl (RL.nil ?_))))
  replace hx := hx.tr (Sm.ext (Ext.trans he29 he42))
  replace hy := hy.tr (Sm.ext (Ext.trans he29 he42))
  refine ⟨(n - 1), ⟨?_, ?_, ?_, ?_, ?_, ?_, ?_, ?_, ?_⟩, ?_⟩
  · exact (by repeat (first | exact G25 | refine Off.st ?_ dC _))
  · first | rfl | exact int_eq oM | exact bool_eq (by simp)
  · omega
  · exact drop_step oM hn oM hd oM
  · exact hx
  · exact hy
  · exact hE
  · exact hr3
  · exact hr7
  (try dsimp only)
  omega
 refine wexit ?_
 refine wsr (aS (v := (iv 0)) rfl (RL.nil ?_))
 refine wret ?_
 refine ⟨[(iv 0)], ⟨rfl, trivial⟩, ?_⟩
 have hn0 : n = 0 := by omega
 subst hn0
 rw [List.drop_zero, List.drop_zero] at hd
 have h := congrArg val hd
 rw [val_digs, val_digs] at h
 exact ⟨int_eq (by unfold cmpI; rw [if_neg oM, if_neg oM]), hE⟩
end Go.Proofs.YtelbjmhhbeijkaaGreat
namespace Go.Vm
structure Kd (U V top v1 v2 u2 p lowU lowV : Nat) : Prop where
  eU : U = (top * 4294967296 + u2) * p + lowU
  eV : V = (v1 * 4294967296 + v2) * p + lowV
  lU : lowU < p
  lV : lowV < p
  hv : 2147483648 ≤ v1
  hv2 : v2 < 4294967296
  hu2 : u2 < 4294967296
  hq : U < V * 4294967296
structure Kn (U V top v1 digit rest : Nat) : Prop where
  e : digit * v1 + rest = top
  ge : U / V ≤ digit
  le : digit ≤ 4294967297
theorem Kd.pos {U V top v1 v2 u2 p lowU lowV : Nat} (H : Kd U V top v1 v2 u2 p lowU lowV) : 0 < V := by
  have h1 := H.hq
  rcases Nat.eq_zero_or_pos V with h | h
  · rw [h] at h1; omega
  exact h
theorem Kd.start {U V top v1 v2 u2 p lowU lowV : Nat} (H : Kd U V top v1 v2 u2 p lowU lowV) : Kn U V top v1 (top / v1) (top % v1) := by
  have hp : 0 < p := Nat.lt_of_le_of_lt (Nat.zero_le _) H.lU
  refine ⟨by rw [Nat.mul_comm]; exact Nat.div_add_mod top v1, ?_, ?_⟩
  · rw [Nat.le_div_iff_mul_le (by have := H.hv; omega)]
    have h1 : U / V * V ≤ U := Nat.div_mul_le_self U V
    have h2 : U / V * (v1 * 4294967296 * p) ≤ U := Nat.le_trans (Nat.mul_le_mul_left _ (by rw [H.eV, Nat.add_mul]; omega)) h1
    have h3 : U < (top + 1) * (4294967296 * p) := by
      rw [H.eU]
      have := H.lU
      have h4 : u2 * p ≤ 4294967295 * p := Nat.mul_le_mul_right _ (by have := H.hu2; omega)
      rw [Nat.add_mul, Nat.add_mul, Nat.mul_assoc]
      omega
    have h5 : (U / V * v1) * (4294967296 * p) < (top + 1) * (4294967296 * p) := by
      rw [Nat.mul_assoc] at h2 ⊢
      exact Nat.lt_of_le_of_lt h2 h3
    have := Nat.lt_of_mul_lt_mul_right h5
    omega
  have h1 : top * (4294967296 * p) ≤ U := by
    rw [H.eU, Nat.add_mul, Nat.mul_assoc]
    omega
  have h2 : V < (v1 + 1) * (4294967296 * p) := by
    rw [H.eV]
    have := H.lV
    have h4 : v2 * p ≤ 4294967295 * p := Nat.mul_le_mul_right _ (by have := H.hv2; omega)
    rw [Nat.add_mul, Nat.add_mul, Nat.mul_assoc]
    omega
  have h3 : top * (4294967296 * p) < ((v1 + 1) * 4294967296) * (4294967296 * p) := by
    refine Nat.lt_of_le_of_lt h1 (Nat.lt_trans H.hq ?_)
    have := Nat.mul_lt_mul_of_pos_right h2 (show 0 < 4294967296 by decide)
    rw [Nat.mul_right_comm] at this
    exact this
  have h4 := Nat.lt_of_mul_lt_mul_right h3
  have h5 : top / v1 < 4294967298 := by
    rw [Nat.div_lt_iff_lt_mul (by have := H.hv; omega)]
    have := H.hv
    omega
  omega
theorem Kd.lt {U V top v1 v2 u2 p lowU lowV : Nat} (H : Kd U V top v1 v2 u2 p lowU lowV) : U / V < 4294967296 := by
  rw [Nat.div_lt_iff_lt_mul H.pos, Nat.mul_comm]; exact H.hq
theorem Kd.step {U V top v1 v2 u2 p lowU lowV digit rest : Nat} (H : Kd U V top v1 v2 u2 p lowU lowV) (K : Kn U V top v1 digit rest) (h : 4294967296 ≤ digit ∨ rest * 4294967296 + u2 < digit * v2) : Kn U V top v1 (digit - 1) (rest + v1) ∧ 1 ≤ digit := by
  have hlt : U / V < digit := by
    rcases h with h | h
    · have := H.lt; omega
    rcases Nat.lt_or_eq_of_le K.ge with h1 | h1
    · exact h1
    exfalso
    have h2 : digit * V ≤ U := by rw [← h1]; exact Nat.div_mul_le_self U V
    have h3 : digit * ((v1 * 4294967296 + v2) * p) ≤ U := Nat.le_trans (Nat.mul_le_mul_left _ (by rw [H.eV]; omega)) h2
    have h4 : (top * 4294967296 + u2 + 1) * p ≤ digit * ((v1 * 4294967296 + v2) * p) := by
      rw [← Nat.mul_assoc]
      refine Nat.mul_le_mul_right _ ?_
      rw [Nat.mul_add, ← Nat.mul_assoc]
      have := K.e
      have e2 : digit * v1 * 4294967296 + rest * 4294967296 = top * 4294967296 := by rw [← Nat.add_mul, this]
      omega
    have h5 := H.eU
    have h6 := H.lU
    have h7 : (top * 4294967296 + u2 + 1) * p = (top * 4294967296 + u2) * p + p := Nat.succ_mul _ _
    omega
  have hz := Nat.zero_le (U / V)
  refine ⟨⟨?_, by omega, by have := K.le; omega⟩, by omega⟩
  have := K.e
  obtain ⟨d, rfl⟩ : ∃ d, digit = d + 1 := ⟨digit - 1, by omega⟩
  rw [Nat.add_sub_cancel, ← this, Nat.succ_mul]
  omega
theorem Kd.exit {U V top v1 v2 u2 p lowU lowV digit rest : Nat} (H : Kd U V top v1 v2 u2 p lowU lowV) (K : Kn U V top v1 digit rest) (h1 : digit < 4294967296) (h2 : digit * v2 ≤ rest * 4294967296 + u2) : digit ≤ U / V + 1 := by
  have hz := Nat.zero_le (U / V)
  rcases Nat.eq_zero_or_pos digit with h0 | h0
  · omega
  obtain ⟨d, rfl⟩ : ∃ d, digit = d + 1 := ⟨digit - 1, by omega⟩
  have hle : d ≤ U / V := by
    rw [Nat.le_div_iff_mul_le H.pos]
    have a1 : (d + 1) * V = ((d + 1) * v1 * 4294967296 + (d + 1) * v2) * p + (d + 1) * lowV := by
      rw [H.eV, Nat.mul_add, ← Nat.mul_assoc, Nat.mul_add, ← Nat.mul_assoc]
    have a2 : ((d + 1) * v1 * 4294967296 + (d + 1) * v2) * p ≤ (top * 4294967296 + u2) * p := by
      refine Nat.mul_le_mul_right _ ?_
      have e2 : (d + 1) * v1 * 4294967296 + rest * 4294967296 = top * 4294967296 := by rw [← Nat.add_mul, K.e]
      omega
    have a3 : (d + 1) * lowV ≤ 4294967295 * p := Nat.le_trans (Nat.mul_le_mul_right _ oM) (Nat.mul_le_mul_left _ (Nat.le_of_lt H.lV))
    have a4 : 4294967296 * p ≤ V := by
      rw [H.eV, Nat.add_mul]
      have : 1 * 4294967296 * p ≤ v1 * 4294967296 * p := Nat.mul_le_mul_right _ (Nat.mul_le_mul_right _ (by have := H.hv; omega))
      omega
    have a5 : (d + 1) * V = d * V + V := Nat.succ_mul _ _
    have a6 := H.eU
    have hp : 0 < p := Nat.lt_of_le_of_lt (Nat.zero_le _) H.lU
    omega
  omega
theorem Kd.brk {U V top v1 v2 u2 p lowU lowV digit rest : Nat} (H : Kd U V top v1 v2 u2 p lowU lowV) (K : Kn U V top v1 digit rest) (h1 : digit ≤ 4294967296) (h2 : 4294967296 ≤ rest) : digit ≤ U / V := by
  rw [Nat.le_div_iff_mul_le H.pos]
  have a1 : digit * V = digit * v1 * 4294967296 * p + digit * (v2 * p + lowV) := by
    rw [H.eV, Nat.add_mul, Nat.add_assoc, Nat.mul_add]
    rw [← Nat.mul_assoc, ← Nat.mul_assoc]
  have a2 : digit * v1 * 4294967296 * p + rest * 4294967296 * p = top * 4294967296 * p := by rw [← Nat.add_mul, ← Nat.add_mul, K.e]
  have a3 : v2 * p + lowV ≤ 4294967296 * p := by
    have : v2 * p ≤ 4294967295 * p := Nat.mul_le_mul_right _ (by have := H.hv2; omega)
    have := H.lV
    omega
  have a4 : digit * (v2 * p + lowV) ≤ 4294967296 * (4294967296 * p) := Nat.mul_le_mul h1 a3
  have a5 : 4294967296 * 4294967296 * p ≤ rest * 4294967296 * p := Nat.mul_le_mul_right _ (Nat.mul_le_mul_right _ h2)
  have a6 := H.eU
  rw [Nat.add_mul] at a6
  omega
def sb (u c : Nat) : Nat := (u + 18446744073709551616 - c) % 18446744073709551616
theorem sb_law {u c : Nat} (hu : u < 4294967296) (hc : c < 4294967296) : sb u c % 4294967296 + c = u + 4294967296 * (sb u c / 9223372036854775808) ∧ sb u c / 9223372036854775808 ≤ 1 ∧ (sb u c / 9223372036854775808 = 0 ↔ c ≤ u) := by
  unfold sb
  by_cases h : c ≤ u
  · rw [show u + 18446744073709551616 - c = (u - c) + 18446744073709551616 by omega, Nat.add_mod_right, Nat.mod_eq_of_lt (show u - c < 18446744073709551616 by omega)]
    omega
  rw [Nat.mod_eq_of_lt (show u + 18446744073709551616 - c < 18446744073709551616 by omega)]
  omega
theorem ms_carry {dg v c u : Nat} (hd : dg < 4294967296) (hv : v < 4294967296) (hc : c < 4294967296) (hu : u < 4294967296) : dg * v + c ≤ 18446744069414584320 ∧ (dg * v + c) / 4294967296 + sb u ((dg * v + c) % 4294967296) / 9223372036854775808 < 4294967296 := by
  have h1 := limb_mul hd hv
  have h2 := sb_law hu (Nat.mod_lt (dg * v + c) (show 0 < 4294967296 by decide))
  generalize hp : dg * v = p at *
  generalize hs : sb u ((p + c) % 4294967296) = s at *
  have hs' := hs
  unfold sb at hs'
  omega
theorem ms_step {P : List Nat} {k c dg u v Uk Vk : Nat} (hP : P.length = k) (h : val P + dg * Vk = Uk + 4294967296 ^ k * c) (hu : u < 4294967296) :
    val (P ++ [sb u ((dg * v + c) % 4294967296) % 4294967296]) + dg * (Vk + 4294967296 ^ k * v) = (Uk + 4294967296 ^ k * u) + 4294967296 ^ (k + 1) * ((dg * v + c) / 4294967296 + sb u ((dg * v + c) % 4294967296) / 9223372036854775808) := by
  have h2 := (sb_law hu (Nat.mod_lt (dg * v + c) (show 0 < 4294967296 by decide))).1
  have h3 := Nat.div_add_mod (dg * v + c) 4294967296
  rw [val_snoc, hP, Nat.pow_succ]
  generalize sb u ((dg * v + c) % 4294967296) = s at *
  generalize (dg * v + c) % 4294967296 = r at *
  generalize (dg * v + c) / 4294967296 = q at *
  generalize s / 9223372036854775808 = b at *
  generalize s % 4294967296 = t at *
  generalize 4294967296 ^ k = p at *
  have e1 : p * t + p * (dg * v + c) = p * u + p * (4294967296 * (q + b)) := by rw [← Nat.mul_add, ← Nat.mul_add]; congr 1; omega
  rw [Nat.mul_add p (dg * v) c] at e1
  rw [Nat.mul_add dg, ← Nat.mul_assoc dg p v, Nat.mul_comm dg p, Nat.mul_assoc p dg v, Nat.mul_assoc p 4294967296]
  omega
theorem nd_ok {U V R Ul un c dg pn : Nat} (hV : 0 < V) (h : R + dg * V = Ul + pn * c) (hU : U = Ul + pn * un) (hc : c ≤ un) (hg : U / V ≤ dg) : dg = U / V ∧ R + pn * (un - c) = U % V := by
  have e : pn * un = pn * c + pn * (un - c) := by rw [← Nat.mul_add]; congr 1; omega
  have e2 : U = dg * V + (R + pn * (un - c)) := by omega
  have h1 : dg ≤ U / V := (Nat.le_div_iff_mul_le hV).2 oM
  have h2 : dg = U / V := by omega
  refine ⟨h2, ?_⟩
  have := Nat.div_add_mod U V
  rw [← h2, Nat.mul_comm] at this
  omega
theorem nd_back {U V R Ul un c dg pn : Nat} (hV : 0 < V) (h : R + dg * V = Ul + pn * c) (hU : U = Ul + pn * un) (hc : un < c) (hg : dg ≤ U / V + 1) (hR : R < pn) (hVp : V < pn) : dg = U / V + 1 ∧ c = un + 1 ∧ R + V = U % V + pn := by
  have hdm := Nat.div_add_mod U V
  have hlt := Nat.mod_lt U hV
  have e : pn * c = pn * un + pn * (c - un) := by rw [← Nat.mul_add]; congr 1; omega
  have e3 : pn * 1 ≤ pn * (c - un) := Nat.mul_le_mul_left _ oM
  have h1 : U < dg * V := by omega
  have h2 : U / V < dg := (Nat.div_lt_iff_lt_mul hV).2 h1
  have h3 : dg = U / V + 1 := by omega
  subst h3
  rw [Nat.succ_mul, Nat.mul_comm] at h
  have h4 : R + V = U % V + pn * (c - un) := by omega
  have h5 : c - un = 1 := by
    rcases Nat.lt_or_ge (c - un) 2 with h6 | h6
    · omega
    have := Nat.mul_le_mul_left pn h6
    omega
  rw [h5, Nat.mul_one] at h4
  exact ⟨rfl, by omega, h4⟩
theorem back_fin {P : List Nat} {n c R V r : Nat} (hP : P.length = n) (hl : Lm P) (h : val P + 4294967296 ^ n * c = R + V) (h2 : R + V = r + 4294967296 ^ n) (hr : r < 4294967296 ^ n) : c = 1 ∧ val P = r := by
  have hv := val_lt hl
  rw [hP] at hv
  generalize 4294967296 ^ n = p at *
  have hc : c = 1 := by
    rcases Nat.lt_trichotomy c 1 with h1 | h1 | h1
    · have : c = 0 := by omega
      subst this; omega
    · exact h1
    have := Nat.mul_le_mul_left p (show 2 ≤ c by omega)
    omega
  subst hc
  omega
theorem back_step {P : List Nat} {k c u v R V : Nat} (hP : P.length = k) (h : val P + 4294967296 ^ k * c = R + V) :
    val (P ++ [(c + (u + v)) % 4294967296]) + 4294967296 ^ (k + 1) * ((c + (u + v)) / 4294967296) = (R + 4294967296 ^ k * u) + (V + 4294967296 ^ k * v) := by
  have h3 := Nat.div_add_mod (c + (u + v)) 4294967296
  rw [val_snoc, hP, Nat.pow_succ]
  generalize (c + (u + v)) % 4294967296 = r at *
  generalize (c + (u + v)) / 4294967296 = q at *
  generalize 4294967296 ^ k = p at *
  have e1 : p * r + p * (4294967296 * q) = p * c + (p * u + p * v) := by rw [← Nat.mul_add, ← Nat.mul_add, ← Nat.mul_add]; congr 1; omega
  rw [Nat.mul_assoc]
  omega
theorem long_step {a0 A A' V Q q j B' : Nat} (h : a0 = A + V * (B' * (4294967296 * Q))) (hj : B' = 4294967296 ^ j) {low W W' : Nat} (hA : A = low + B' * W) (hA' : A' = low + B' * W') (hW : W = q * V + W') : a0 = A' + V * (B' * (q + 4294967296 * Q)) := by
  rw [h, hA, hA', hW, Nat.mul_add B', Nat.mul_add B', Nat.mul_add V]
  have : B' * (q * V) = V * (B' * q) := by rw [Nat.mul_comm q V, ← Nat.mul_assoc, Nat.mul_comm B' V, Nat.mul_assoc]
  omega
end Go.Vm
namespace Go.Vm
def sb2 (x c y : Nat) : Nat := (sb x c + 18446744073709551616 - y) % 18446744073709551616
theorem sb2_law {x c y : Nat} (hx : x < 4294967296) (hc : c ≤ 1) (hy : y < 4294967296) : sb2 x c y % 4294967296 = (x + 4294967296 - (c + y)) % 4294967296 ∧ sb2 x c y / 9223372036854775808 = (if x < c + y then 1 else 0) := by
  unfold sb2 sb
  by_cases h1 : c ≤ x
  · rw [show x + 18446744073709551616 - c = (x - c) + 18446744073709551616 by omega, Nat.add_mod_right, Nat.mod_eq_of_lt (show x - c < 18446744073709551616 by omega)]
    by_cases h2 : x < c + y
    · rw [if_pos h2, Nat.mod_eq_of_lt (show x - c + 18446744073709551616 - y < 18446744073709551616 by omega)]
      omega
    rw [if_neg h2, show x - c + 18446744073709551616 - y = (x - c - y) + 18446744073709551616 by omega, Nat.add_mod_right, Nat.mod_eq_of_lt (show x - c - y < 18446744073709551616 by omega)]
    omega
  rw [Nat.mod_eq_of_lt (show x + 18446744073709551616 - c < 18446744073709551616 by omega), if_pos oM]
  rw [show x + 18446744073709551616 - c + 18446744073709551616 - y = (x + 18446744073709551616 - c - y) + 18446744073709551616 by omega, Nat.add_mod_right, Nat.mod_eq_of_lt (show x + 18446744073709551616 - c - y < 18446744073709551616 by omega)]
  omega
theorem sb_zero {x c : Nat} : sb x c = sb2 x c 0 := by
  unfold sb2
  rw [Nat.sub_zero, Nat.add_mod_right, Nat.mod_eq_of_lt]
  unfold sb
  exact Nat.mod_lt _ dC
theorem mul_skip {O x y : List Nat} {i : Nat} (hi : i < x.length) (hO : O.length = x.length + y.length) (h1 : val (O.take (i + y.length)) = val (x.take i) * val y) (hz : ∀ j, i + y.length ≤ j → j < O.length → O.getD j default = 0) (h0 : x.getD i default = 0) :
    val (O.take (i + 1 + y.length)) = val (x.take (i + 1)) * val y := by
  rw [show i + 1 + y.length = (i + y.length) + 1 by omega, val_take_succ oM, hz _ (Nat.le_refl _) oM, h1, val_take_succ hi, h0]
  simp
end Go.Vm
namespace Go.Vm
theorem sh_step {P : List Nat} {k c x s V : Nat} (hP : P.length = k) (h : val P + 4294967296 ^ k * c = V * 2 ^ s) :
    val (P ++ [(c + x * 2 ^ s) % 4294967296]) + 4294967296 ^ (k + 1) * ((c + x * 2 ^ s) / 4294967296) = (V + 4294967296 ^ k * x) * 2 ^ s := by
  rw [val_snoc, hP, Nat.pow_succ]
  have h1 := mul_mod_div (4294967296 ^ k) (c + x * 2 ^ s)
  rw [Nat.mul_comm 4294967296] at h1
  rw [Nat.mul_add, ← Nat.mul_assoc] at h1
  rw [Nat.add_mul]
  omega
theorem sh_carry {c x s : Nat} (hs : s ≤ 31) (hc : c < 2 ^ s) (hx : x < 4294967296) : c + x * 2 ^ s < 9223372036854775808 ∧ (c + x * 2 ^ s) / 4294967296 < 2 ^ s ∧ 2 ^ s ≤ 2147483648 := by
  have h1 : 2 ^ s ≤ 2 ^ 31 := Nat.pow_le_pow_right dC hs
  have h2 : x * 2 ^ s ≤ 4294967295 * 2 ^ s := Nat.mul_le_mul_right _ oM
  generalize 2 ^ s = p at *
  generalize x * p = q at *
  omega
theorem or_low {c x s : Nat} (hc : c < 2 ^ s) : c ||| x * 2 ^ s = c + x * 2 ^ s := by
  have h := Nat.two_pow_add_eq_or_of_lt hc x
  rw [Nat.mul_comm] at h
  rw [Nat.or_comm, ← h, Nat.add_comm]
theorem val_drop_dig (x : List Nat) (k : Nat) : val (x.drop k) = dig x k + 4294967296 * val (x.drop (k + 1)) := by
  by_cases h : k < x.length
  · rw [drop_at h, dig_t h]; rfl
  rw [dig_f h, List.drop_of_length_le oM, List.drop_of_length_le oM]; rfl
theorem div_pow_drop {x : List Nat} (hx : Lm x) (k : Nat) : val x / 4294967296 ^ k = val (x.drop k) := by
  have hk : val (x.take k) < 4294967296 ^ k := Nat.lt_of_lt_of_le (val_lt (hx.take k)) (Nat.pow_le_pow_right dC (by rw [List.length_take]; omega))
  by_cases h : k ≤ x.length
  · rw [val_split x h, Nat.add_mul_div_left _ _ (Nat.pow_pos dC), Nat.div_eq_of_lt hk, Nat.zero_add]
  rw [List.take_of_length_le oM] at hk
  rw [List.drop_of_length_le oM, Nat.div_eq_of_lt hk]; rfl
theorem split_shift {a r s : Nat} (B : Nat) (hB : B = 2 ^ 32) (hs : s ≤ 31) : (a + B * (B * r)) / 2 ^ s % B = a / 2 ^ s % B := by
  have hp : B = 2 ^ s * 2 ^ (32 - s) := by rw [hB, ← Nat.pow_add, show s + (32 - s) = 32 by omega]
  have e3 : B * (B * r) = 2 ^ s * (B * (2 ^ (32 - s) * r)) := by
    rw [← Nat.mul_assoc B (2 ^ (32 - s)) r, Nat.mul_comm B (2 ^ (32 - s)), Nat.mul_assoc (2 ^ (32 - s)) B r, ← Nat.mul_assoc (2 ^ s) (2 ^ (32 - s)), ← hp]
  rw [e3, Nat.add_mul_div_left _ _ (Nat.pow_pos dC), Nat.add_mul_mod_self_left]
theorem shr_digit {x : List Nat} (hx : Lm x) {k s : Nat} (hs : s ≤ 31) : (dig x k + 4294967296 * dig x (k + 1)) / 2 ^ s % 4294967296 = val x / 2 ^ s / 4294967296 ^ k % 4294967296 := by
  rw [Nat.div_div_eq_div_mul, Nat.mul_comm (2 ^ s), ← Nat.div_div_eq_div_mul, div_pow_drop hx, val_drop_dig x k, val_drop_dig x (k + 1), Nat.mul_add, ← Nat.add_assoc]
  exact (split_shift 4294967296 rfl hs).symm
theorem low_step {P : List Nat} {W k : Nat} (hP : P.length = k) (h : val P = W % 4294967296 ^ k) : val (P ++ [W / 4294967296 ^ k % 4294967296]) = W % 4294967296 ^ (k + 1) := by
  rw [val_snoc, hP, h, Nat.pow_succ, Nat.mod_mul]
theorem zset {n u : Nat} {Q : List Nat} : (List.replicate (n + 1) 0 ++ Q).set n u = List.replicate n 0 ++ (u :: Q) := by
  rw [List.replicate_succ', List.append_assoc, List.set_append_right (h := by simp)]
  simp
theorem limb_step {x : List Nat} {n d r : Nat} {Q : List Nat} (hn : n < x.length) (hd : 0 < d) (h : val (x.drop (n + 1)) = val Q * d + r) :
    val (x.drop n) = val ((r * 4294967296 + x.getD n default) / d :: Q) * d + (r * 4294967296 + x.getD n default) % d := by
  have h1 := val_drop_cons (a := x) (n := n + 1) oM oM
  rw [Nat.add_sub_cancel] at h1
  rw [h1, h]
  show _ = ((r * 4294967296 + x.getD n default) / d + 4294967296 * val Q) * d + _
  have h2 := Nat.div_add_mod (r * 4294967296 + x.getD n default) d
  rw [Nat.mul_comm d] at h2
  rw [Nat.add_mul, Nat.mul_assoc]
  generalize (r * 4294967296 + x.getD n default) / d * d = q1 at *
  generalize (r * 4294967296 + x.getD n default) % d = m1 at *
  generalize val Q * d = t at *
  omega
theorem limb_lt {r d x : Nat} (hr : r < d) (hd : d < 4294967296) (hx : x < 4294967296) : (r * 4294967296 + x) / d < 4294967296 ∧ r * 4294967296 + x < 18446744073709551616 := by
  refine ⟨(Nat.div_lt_iff_lt_mul oM).2 ?_, by omega⟩
  have : (r + 1) * 4294967296 ≤ d * 4294967296 := Nat.mul_le_mul_right _ hr
  rw [Nat.mul_comm 4294967296 d]
  omega
end Go.Vm
namespace Go.Vm
theorem kd_of {u v : List Nat} {n : Nat} (hu : u.length = n + 1) (hv : v.length = n) (hn : 2 ≤ n) (lu : Lm u) (lv : Lm v) (htop : 2147483648 ≤ v.getD (n - 1) default) (hq : val u < val v * 4294967296) :
    Kd (val u) (val v) (u.getD n default * 4294967296 + u.getD (n - 1) default) (v.getD (n - 1) default) (v.getD (n - 2) default) (u.getD (n - 2) default) (4294967296 ^ (n - 2)) (val (u.take (n - 2))) (val (v.take (n - 2))) := by
  obtain ⟨m, rfl⟩ : ∃ m, n = m + 2 := ⟨n - 2, by omega⟩
  have e1 := val_take_succ (xs := u) (k := m) oM
  have e2 := val_take_succ (xs := u) (k := m + 1) oM
  have e3 := val_take_succ (xs := u) (k := m + 2) oM
  rw [List.take_of_length_le (show u.length ≤ m + 2 + 1 by omega)] at e3
  have f1 := val_take_succ (xs := v) (k := m) oM
  have f2 := val_take_succ (xs := v) (k := m + 1) oM
  rw [List.take_of_length_le (show v.length ≤ m + 1 + 1 by omega)] at f2
  have hp1 : 4294967296 ^ (m + 1) = 4294967296 ^ m * 4294967296 := Nat.pow_succ ..
  have hp2 : 4294967296 ^ (m + 2) = 4294967296 ^ (m + 1) * 4294967296 := Nat.pow_succ ..
  have lt1 := val_lt (lu.take m)
  have lt2 := val_lt (lv.take m)
  rw [List.length_take, Nat.min_eq_left oM] at lt1 lt2
  simp only [show m + 2 - 1 = m + 1 by omega, Nat.add_sub_cancel]
  rw [hp1] at e2 f2
  rw [hp2, hp1] at e3
  refine ⟨?_, ?_, lt1, lt2, by simpa using htop, lv.at oM, lu.at oM, hq⟩
  · rw [e3, e2, e1, Nat.add_mul, Nat.add_mul]
    generalize 4294967296 ^ m = p
    generalize u.getD (m + 2) default = a
    generalize u.getD (m + 1) default = b
    generalize u.getD m default = c
    rw [Nat.add_mul, Nat.mul_comm c p, Nat.mul_right_comm a 4294967296 4294967296, Nat.mul_assoc a 4294967296 4294967296, Nat.mul_assoc p, Nat.mul_assoc p, Nat.mul_assoc p]
    rw [Nat.mul_assoc a (4294967296 * 4294967296) p, Nat.mul_assoc b 4294967296 p, Nat.mul_comm (4294967296 * 4294967296) p, Nat.mul_comm 4294967296 p, ← Nat.mul_assoc a p, ← Nat.mul_assoc b p, Nat.mul_comm a p, Nat.mul_comm b p, Nat.mul_assoc p a, Nat.mul_assoc p b, Nat.mul_comm a, Nat.mul_comm b]
    rw [Nat.mul_assoc 4294967296 4294967296 a]
    omega
  rw [f2, f1, Nat.add_mul]
  generalize 4294967296 ^ m = p
  generalize v.getD (m + 1) default = b
  generalize v.getD m default = c
  rw [Nat.mul_comm c p, Nat.mul_assoc b 4294967296 p, Nat.mul_comm 4294967296 p, ← Nat.mul_assoc b p, Nat.mul_comm b p, Nat.mul_assoc p b, Nat.mul_assoc p 4294967296 b, Nat.mul_comm b]
  omega
theorem tail_at {P u : List Nat} {k : Nat} (hP : P.length = k) : (P ++ u.drop k).getD k default = u.getD k default := by
  subst hP
  rw [List.getD_eq_getElem?_getD, List.getD_eq_getElem?_getD, List.getElem?_append_right (Nat.le_refl _), Nat.sub_self, List.getElem?_drop, Nat.add_zero]
theorem tail_set {P u : List Nat} {k z : Nat} (hP : P.length = k) (hk : k < u.length) : (P ++ u.drop k).set k z = (P ++ [z]) ++ u.drop (k + 1) := by
  subst hP
  rw [List.set_append_right (h := Nat.le_refl _), Nat.sub_self, drop_at hk]
  simp
end Go.Vm
