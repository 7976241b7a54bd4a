/- Walks, printed by program. -/
import Derived.Test.YtppgppnkhpjlpaaRa
namespace Go.Proofs.Ytppgppnkhpjlpaa
open Go.Vg Go.RowKit
set_option linter.unusedVariables false

open Go.Vm

theorem cmpI_neg {a b : Int} : cmpI a b < 0 ↔ a < b := by unfold cmpI; constructor <;> intro h <;> (repeat split at *) <;> omega
theorem cmpI_zero {a b : Int} : cmpI a b = 0 ↔ a = b := by unfold cmpI; constructor <;> intro h <;> (repeat split at *) <;> omega
theorem cmpI_pos {a b : Int} : 0 < cmpI a b ↔ b < a := by unfold cmpI; constructor <;> intro h <;> (repeat split at *) <;> omega

set_option maxHeartbeats 1000000 in
theorem r01_add {w : World} {Dx : Nat → TypeId → Prop} {vx : Value} {x : List Nat} (hx0 : Sg (gN .u32) Dx w vx x) (lmx : Lm x) (lnx : x.length ≤ 1099511627776) {Dy : Nat → TypeId → Prop} {vy : Value} {y : List Nat} (hy0 : Sg (gN .u32) Dy w vy y) (lmy : Lm y) (lny : y.length ≤ 1099511627776) :
    Calls Try.prog 61 #[vx, vy] w fun e w' => ∃ v, e = .returned v ∧ Sg (gN .u32) (fun b T => w.heap.size ≤ b ∧ T = 52) w' v (digs (val x + val y)) ∧ Ext w w' := by
  have hE : Below w.heap.size w w := Below.refl _ _
  have hx := hx0.old
  clear hx0
  have hy := hy0.old
  clear hy0
  refine calls_of (n := 52) (rs := [.tmp 4]) Try.func61 rfl rfl rfl (Nat.le_of_ble_eq_true rfl) ?_
  refine wset fun F0 hF0 => ?_
  refine wseq ?_
  refine wregion ?_
  refine RL.val rfl rfl (by decide) (r_assign_as (v := (.slice none (0) (0))) rfl) ?_
  refine RL.nil ?_
  refine wseq ?_
  refine wregion ?_
  refine RL.val rfl rfl (by decide) (r_move_as (v := vx) (hF0 0)) ?_
  obtain ⟨A1, c2, hv3, hc4, hc5⟩ := hx.len
  refine RL.val rfl rfl (by decide) (r_len Try.underlying38 hv3) ?_
  refine RL.val rfl rfl (by decide) (r_move_as (v := vy) (hF0 1)) ?_
  obtain ⟨A6, c7, hv8, hc9, hc10⟩ := hy.len
  refine RL.val rfl rfl (by decide) (r_len Try.underlying38 hv8) ?_
  refine RL.val rfl rfl (by decide) (r_max2 (a := ((x.length : Nat) : Int)) (b := ((y.length : Nat) : Int)) rfl rfl) ?_
  refine RL.val rfl rfl (by decide) (r_add (k := .i64) (a := if ((y.length : Nat) : Int) > ((x.length : Nat) : Int) then ((y.length : Nat) : Int) else ((x.length : Nat) : Int)) (b := 1) (c := (if ((y.length : Nat) : Int) > ((x.length : Nat) : Int) then ((y.length : Nat) : Int) else ((x.length : Nat) : Int)) + 1) rfl rfl (wi64 (by omega))) ?_
  obtain ⟨m, hm⟩ : ∃ m : Nat, m = max x.length y.length + 1 := ⟨_, rfl⟩
  have hn16 : ((if ((y.length : Nat) : Int) > ((x.length : Nat) : Int) then ((y.length : Nat) : Int) else ((x.length : Nat) : Int)) + 1 : Int) = ((m : Nat) : Int) := by (repeat split) <;> omega
  refine RL.run rfl rfl (by decide) (h_make1 (n := m) Try.underlying38 ty52 rfl (int_eq hn16) (int_eq hn16) (by omega) (by omega)) ?_
  rintro _ w11 ⟨b12, rfl, hs15, hb14, he13⟩
  have he13z := he13.size
  replace hx := hx.tr (Sm.ext he13)
  replace hy := hy.tr (Sm.ext he13)
  replace hE := Below.ext hE (by omega) he13
  replace hb14 := Ar.made (g := (gN .u32)) (z := (0 : Nat)) hb14 rfl
  have hb14l := hb14.lt
  refine RL.val rfl rfl (by decide) (r_assign_as (v := (.slice (some ⟨b12, 0, none⟩) (m) (m))) rfl) ?_
  refine RL.nil ?_
  refine wseq ?_
  refine wregion ?_
  refine RL.val rfl rfl (by decide) (r_assign_as (v := (.int .u64 (0))) rfl) ?_
  refine RL.nil ?_
  refine wseq ?_
  refine wseq ?_
  refine wregion ?_
  refine RL.val rfl rfl (by decide) (r_assign_as (v := (.int .i64 (0))) rfl) ?_
  refine RL.nil ?_
  refine wblock ?_
  refine wset fun F17 hF18 => ?_
  refine wloop (σ := Nat × Nat × List Nat) (fun (s : Nat × Nat × List Nat) fl wl => match s with | (k, c, P) => Off [6, 7, 15, 16, 17, 18, 19, 20, 21, 22, 23, 24, 25, 26, 27, 28, 29, 30, 31, 32, 33, 34, 35, 36, 37, 38, 39, 40, 41, 42, 43, 44, 45, 46, 47, 48, 49] F17 fl ∧ fl 7 = (.int .i64 (((k : Nat) : Int))) ∧ fl 6 = (.int .u64 (((c : Nat) : Int))) ∧ (k ≤ m) ∧ (P.length = k) ∧ (Lm P) ∧ (c ≤ 1) ∧ (val P + 4294967296 ^ k * c = val (x.take k) + val (y.take k)) ∧ (Sg (gN .u32) (fun b T => Dx b T ∧ b < w.heap.size) wl vx x) ∧ (Sg (gN .u32) (fun b T => Dy b T ∧ b < w.heap.size) wl vy y) ∧ (Ar (gN .u32) wl b12 52 0 (fillN P m) m) ∧ (Below w.heap.size w wl) ∧ (w11.heap.size ≤ wl.heap.size)) (fun (s : Nat × Nat × List Nat) => match s with | (k, c, P) => m - k) (0, 0, []) ?_ ?_
  · exact ⟨Off.refl _ _, (hF18 7).trans (rfl), (hF18 6).trans (rfl), Nat.zero_le _, rfl, Lm.nil, Nat.zero_le _, rfl, hx, hy, (by rw [fillN_nil]; exact hb14), hE, Nat.le_refl _⟩
  · clear hx hy hE hb14
    rintro ⟨k, c, P⟩ f20 w21 ⟨hoff22, hs23, hs24, hk, hP, hLm, hc, hv, hx, hy, hb14, hE, hz19⟩
    refine wseq ?_
    refine wseq ?_
    refine wregion ?_
    refine RL.val rfl rfl (by decide) (r_move_as (v := (.int .i64 (((k : Nat) : Int)))) hs23) ?_
    refine RL.val rfl rfl (by decide) (r_move_as (v := (.slice (some ⟨b12, 0, none⟩) (m) (m))) ((hoff22 5 rfl).trans (hF18 5))) ?_
    refine RL.val rfl rfl (by decide) (r_len Try.underlying38 rfl) ?_
    refine RL.val rfl rfl (by decide) (r_lss (k := .i64) (a := ((k : Nat) : Int)) (b := ((m : Nat) : Int)) rfl rfl) ?_
    refine RL.nil ?_
    refine wcond (b := decide (((k : Nat) : Int) < ((m : Nat) : Int))) rfl (fun hb25 => ?_) (fun hb25 => ?_)
    · have hb25p := hb25
      replace hb25p := of_decide_eq_true hb25p
      refine wskip ?_
      refine wseq ?_
      refine wblock ?_
      refine wset fun F26 hF27 => ?_
      refine wcut (fun fl wl => Off [6, 21, 22, 23, 24, 25, 26, 27, 28, 29, 30, 31] F26 fl ∧ fl 6 = (.int .u64 (((c + dig x k : Nat) : Int))) ∧ (Sg (gN .u32) (fun b T => Dx b T ∧ b < w.heap.size) wl vx x) ∧ (Sg (gN .u32) (fun b T => Dy b T ∧ b < w.heap.size) wl vy y) ∧ (Ar (gN .u32) wl b12 52 0 (fillN P m) m) ∧ (Below w.heap.size w wl) ∧ (w21.heap.size ≤ wl.heap.size)) ?_ ?_
      · have hoff29 := Off.refl [6, 21, 22, 23, 24, 25, 26, 27, 28, 29, 30, 31] F26
        refine wseq ?_
        refine wregion ?_
        refine RL.val rfl rfl (by decide) (r_move_as (v := (.int .i64 (((k : Nat) : Int)))) ((hF27 7).trans hs23)) ?_
        refine RL.val rfl rfl (by decide) (r_move_as (v := vx) ((hF27 0).trans ((hoff22 0 rfl).trans ((hF18 0).trans (hF0 0))))) ?_
        refine RL.val rfl rfl (by decide) (r_len Try.underlying38 hv3) ?_
        refine RL.val rfl rfl (by decide) (r_lss (k := .i64) (a := ((k : Nat) : Int)) (b := ((x.length : Nat) : Int)) rfl rfl) ?_
        refine RL.nil ?_
        refine wcond (b := decide (((k : Nat) : Int) < ((x.length : Nat) : Int))) rfl (fun hb30 => ?_) (fun hb30 => ?_)
        · have hb30p := hb30
          replace hb30p := of_decide_eq_true hb30p
          refine wregion ?_
          refine RL.val rfl rfl (by decide) (r_move_as (v := (.int .u64 (((c : Nat) : Int)))) ((hF27 6).trans hs24)) ?_
          refine RL.val rfl rfl (by decide) (r_move_as (v := vx) ((hF27 0).trans ((hoff22 0 rfl).trans ((hF18 0).trans (hF0 0))))) ?_
          refine RL.val rfl rfl (by decide) (r_move_as (v := (.int .i64 (((k : Nat) : Int)))) ((hF27 7).trans hs23)) ?_
          obtain ⟨b31, o32, c33, hv34, hc35⟩ := hx.ix (i := ((k : Nat) : Int)) (k) (by omega) (by omega)
          refine RL.val rfl rfl (by decide) (r_indexAddr (i := ((k : Nat) : Int)) Try.underlying38 ty52 hv34 rfl (by omega) (by omega)) ?_
          refine RL.val rfl rfl (by decide) (r_load (v := (.int .u32 (((x.getD (k) default : Nat) : Int)))) Try.underlying52 ag52 rfl hc35) ?_
          refine RL.val rfl rfl (by decide) (r_conv (k := .u64) (a := ((x.getD (k) default : Nat) : Int)) (c := ((x.getD (k) default : Nat) : Int)) Try.underlying52 Try.underlying33 rfl (wu64 (by have := lmx.at (k := k) (by omega); omega))) ?_
          refine RL.val rfl rfl (by decide) (r_add (k := .u64) (a := ((c : Nat) : Int)) (b := ((x.getD (k) default : Nat) : Int)) (c := ((c : Nat) : Int) + ((x.getD (k) default : Nat) : Int)) rfl rfl (wu64 (by have := lmx.at (k := k) (by omega); omega))) ?_
          refine RL.val rfl rfl (by decide) (r_assign_as (v := (.int .u64 (((c : Nat) : Int) + ((x.getD (k) default : Nat) : Int)))) rfl) ?_
          refine RL.nil ?_
          refine ⟨?_, ?_, ?_, ?_, ?_, ?_, ?_⟩
          · exact (by repeat (first | exact hoff29 | refine Off.st ?_ (by decide) _ | refine Off.via hoff22 (by decide) ?_ | refine Off.eq hF18 ?_))
          · first | exact int_eq (by rw [dig_t (xs := x) (by omega)]; omega) | exact int_eq (by rw [dig_f (xs := x) (by omega)]; omega)
          · exact hx
          · exact hy
          · exact hb14
          · exact hE
          · omega
        · have hb30p := hb30
          replace hb30p := of_decide_eq_false hb30p
          refine wskip ?_
          refine ⟨?_, ?_, ?_, ?_, ?_, ?_, ?_⟩
          · exact (by repeat (first | exact hoff29 | refine Off.st ?_ (by decide) _ | refine Off.via hoff22 (by decide) ?_ | refine Off.eq hF18 ?_))
          · refine (((hF27 6).trans hs24)).trans ?_
            first | exact int_eq (by rw [dig_t (xs := x) (by omega)]; omega) | exact int_eq (by rw [dig_f (xs := x) (by omega)]; omega)
          · exact hx
          · exact hy
          · exact hb14
          · exact hE
          · omega
      · clear hx hy hE hb14
        rintro f36 w37 ⟨hoff38, hs39, hx, hy, hb14, hE, hz28⟩
        refine wset fun F40 hF41 => ?_
        refine wcut (fun fl wl => Off [6, 32, 33, 34, 35, 36, 37, 38, 39, 40, 41, 42] F40 fl ∧ fl 6 = (.int .u64 (((c + dig x k + dig y k : Nat) : Int))) ∧ (Sg (gN .u32) (fun b T => Dx b T ∧ b < w.heap.size) wl vx x) ∧ (Sg (gN .u32) (fun b T => Dy b T ∧ b < w.heap.size) wl vy y) ∧ (Ar (gN .u32) wl b12 52 0 (fillN P m) m) ∧ (Below w.heap.size w wl) ∧ (w37.heap.size ≤ wl.heap.size)) ?_ ?_
        · have hoff43 := Off.refl [6, 32, 33, 34, 35, 36, 37, 38, 39, 40, 41, 42] F40
          refine wseq ?_
          refine wregion ?_
          refine RL.val rfl rfl (by decide) (r_move_as (v := (.int .i64 (((k : Nat) : Int)))) ((hF41 7).trans ((hoff38 7 rfl).trans ((hF27 7).trans hs23)))) ?_
          refine RL.val rfl rfl (by decide) (r_move_as (v := vy) ((hF41 1).trans ((hoff38 1 rfl).trans ((hF27 1).trans ((hoff22 1 rfl).trans ((hF18 1).trans (hF0 1))))))) ?_
          refine RL.val rfl rfl (by decide) (r_len Try.underlying38 hv8) ?_
          refine RL.val rfl rfl (by decide) (r_lss (k := .i64) (a := ((k : Nat) : Int)) (b := ((y.length : Nat) : Int)) rfl rfl) ?_
          refine RL.nil ?_
          refine wcond (b := decide (((k : Nat) : Int) < ((y.length : Nat) : Int))) rfl (fun hb44 => ?_) (fun hb44 => ?_)
          · have hb44p := hb44
            replace hb44p := of_decide_eq_true hb44p
            refine wregion ?_
            refine RL.val rfl rfl (by decide) (r_move_as (v := (.int .u64 (((c + dig x k : Nat) : Int)))) ((hF41 6).trans hs39)) ?_
            refine RL.val rfl rfl (by decide) (r_move_as (v := vy) ((hF41 1).trans ((hoff38 1 rfl).trans ((hF27 1).trans ((hoff22 1 rfl).trans ((hF18 1).trans (hF0 1))))))) ?_
            refine RL.val rfl rfl (by decide) (r_move_as (v := (.int .i64 (((k : Nat) : Int)))) ((hF41 7).trans ((hoff38 7 rfl).trans ((hF27 7).trans hs23)))) ?_
            obtain ⟨b45, o46, c47, hv48, hc49⟩ := hy.ix (i := ((k : Nat) : Int)) (k) (by omega) (by omega)
            refine RL.val rfl rfl (by decide) (r_indexAddr (i := ((k : Nat) : Int)) Try.underlying38 ty52 hv48 rfl (by omega) (by omega)) ?_
            refine RL.val rfl rfl (by decide) (r_load (v := (.int .u32 (((y.getD (k) default : Nat) : Int)))) Try.underlying52 ag52 rfl hc49) ?_
            refine RL.val rfl rfl (by decide) (r_conv (k := .u64) (a := ((y.getD (k) default : Nat) : Int)) (c := ((y.getD (k) default : Nat) : Int)) Try.underlying52 Try.underlying33 rfl (wu64 (by have := lmy.at (k := k) (by omega); omega))) ?_
            refine RL.val rfl rfl (by decide) (r_add (k := .u64) (a := ((c + dig x k : Nat) : Int)) (b := ((y.getD (k) default : Nat) : Int)) (c := ((c + dig x k : Nat) : Int) + ((y.getD (k) default : Nat) : Int)) rfl rfl (wu64 (by have := lmy.at (k := k) (by omega); have := dig_lt lmx k; omega))) ?_
            refine RL.val rfl rfl (by decide) (r_assign_as (v := (.int .u64 (((c + dig x k : Nat) : Int) + ((y.getD (k) default : Nat) : Int)))) rfl) ?_
            refine RL.nil ?_
            refine ⟨?_, ?_, ?_, ?_, ?_, ?_, ?_⟩
            · exact (by repeat (first | exact hoff43 | refine Off.st ?_ (by decide) _ | refine Off.via hoff38 (by decide) ?_ | refine Off.eq hF27 ?_ | refine Off.via hoff22 (by decide) ?_ | refine Off.eq hF18 ?_))
            · first | exact int_eq (by rw [dig_t (xs := y) (by omega)]; omega) | exact int_eq (by rw [dig_f (xs := y) (by omega)]; omega)
            · exact hx
            · exact hy
            · exact hb14
            · exact hE
            · omega
          · have hb44p := hb44
            replace hb44p := of_decide_eq_false hb44p
            refine wskip ?_
            refine ⟨?_, ?_, ?_, ?_, ?_, ?_, ?_⟩
            · exact (by repeat (first | exact hoff43 | refine Off.st ?_ (by decide) _ | refine Off.via hoff38 (by decide) ?_ | refine Off.eq hF27 ?_ | refine Off.via hoff22 (by decide) ?_ | refine Off.eq hF18 ?_))
            · refine (((hF41 6).trans hs39)).trans ?_
              first | exact int_eq (by rw [dig_t (xs := y) (by omega)]; omega) | exact int_eq (by rw [dig_f (xs := y) (by omega)]; omega)
            · exact hx
            · exact hy
            · exact hb14
            · exact hE
            · omega
        · clear hx hy hE hb14
          rintro f50 w51 ⟨hoff52, hs53, hx, hy, hb14, hE, hz42⟩
          refine wseq ?_
          refine wregion ?_
          refine RL.val rfl rfl (by decide) (r_move_as (v := (.slice (some ⟨b12, 0, none⟩) (m) (m))) ((hoff52 5 rfl).trans ((hF41 5).trans ((hoff38 5 rfl).trans ((hF27 5).trans ((hoff22 5 rfl).trans (hF18 5))))))) ?_
          refine RL.val rfl rfl (by decide) (r_move_as (v := (.int .i64 (((k : Nat) : Int)))) ((hoff52 7 rfl).trans ((hF41 7).trans ((hoff38 7 rfl).trans ((hF27 7).trans hs23))))) ?_
          refine RL.val rfl rfl (by decide) (r_move_as (v := (.int .u64 (((c + dig x k + dig y k : Nat) : Int)))) hs53) ?_
          refine RL.val rfl rfl (by decide) (r_conv (k := .u32) (a := ((c + dig x k + dig y k : Nat) : Int)) (c := (((c + dig x k + dig y k) % 4294967296 : Nat) : Int)) Try.underlying33 Try.underlying52 rfl (cu32 _)) ?_
          refine RL.val rfl rfl (by decide) (r_indexAddr (i := ((k : Nat) : Int)) Try.underlying38 ty52 rfl rfl (by omega) (by omega)) ?_
          refine RL.runs rfl rfl (h_set (g := (gN .u32)) (vv := (.int .u32 ((((c + dig x k + dig y k) % 4294967296 : Nat) : Int)))) (u := (c + dig x k + dig y k) % 4294967296) (i := ((k : Nat) : Int)) ty52 rfl rfl rfl rfl rfl hb14 (k) (by omega) (by omega)) ?_
          rintro w54 ⟨ha55, hx56⟩
          have hx56z := hx56.size
          replace hx := hx.tr (hb14.sm hx56 (by (intro h; have := h.2; omega)))
          replace hy := hy.tr (hb14.sm hx56 (by (intro h; have := h.2; omega)))
          replace hE := Below.exc hE (by omega) hx56 (by omega)
          replace hb14 := ha55
          refine RL.nil ?_
          refine wregion ?_
          refine RL.val rfl rfl (by decide) (r_move_as (v := (.int .u64 (((c + dig x k + dig y k : Nat) : Int)))) hs53) ?_
          refine RL.val rfl rfl (by decide) (r_shr (k := .u64) (a := ((c + dig x k + dig y k : Nat) : Int)) (b := 32) (c := (((c + dig x k + dig y k) / 4294967296 : Nat) : Int)) rfl rfl (by decide) (shr32 _)) ?_
          refine RL.val rfl rfl (by decide) (r_assign_as (v := (.int .u64 ((((c + dig x k + dig y k) / 4294967296 : Nat) : Int)))) rfl) ?_
          refine RL.nil ?_
          refine wregion ?_
          refine RL.val rfl rfl (by decide) (r_move_as (v := (.int .i64 (((k : Nat) : Int)))) ((hoff52 7 rfl).trans ((hF41 7).trans ((hoff38 7 rfl).trans ((hF27 7).trans hs23))))) ?_
          refine RL.val rfl rfl (by decide) (r_add (k := .i64) (a := ((k : Nat) : Int)) (b := 1) (c := ((k : Nat) : Int) + 1) rfl rfl (wi64 (by omega))) ?_
          refine RL.val rfl rfl (by decide) (r_assign_as (v := (.int .i64 (((k : Nat) : Int) + 1))) rfl) ?_
          refine RL.nil ?_
          refine ⟨(k + 1, (c + dig x k + dig y k) / 4294967296, P ++ [(c + dig x k + dig y k) % 4294967296]), ⟨?_, ?_, ?_, ?_, ?_, ?_, ?_, ?_, ?_, ?_, ?_, ?_, ?_⟩, ?_⟩
          · exact (by repeat (first | exact hoff22 | refine Off.st ?_ (by decide) _ | refine Off.via hoff52 (by decide) ?_ | refine Off.eq hF41 ?_ | refine Off.via hoff38 (by decide) ?_ | refine Off.eq hF27 ?_))
          · first | rfl | exact int_eq (by omega) | exact bool_eq (by simp)
          · first | rfl | exact int_eq (by omega) | exact bool_eq (by simp)
          · omega
          · rw [List.length_append, hP]; rfl
          · exact hLm.snoc (Nat.mod_lt _ (by decide))
          · have := dig_lt lmx k; have := dig_lt lmy k; omega
          · rw [val_take_dig, val_take_dig]; exact add_step hP hv
          · exact hx
          · exact hy
          · rw [fillN_set hP (by omega)] at hb14; exact hb14
          · exact hE
          · omega
          · (try dsimp only)
            omega
    · have hb25p := hb25
      replace hb25p := of_decide_eq_false hb25p
      refine wexit ?_
      refine wseq ?_
      have hkm : k = m := by omega
      rw [fillN_full (by omega)] at hb14
      refine wregion ?_
      refine RL.val rfl rfl (by decide) (r_move_as (v := (.slice (some ⟨b12, 0, none⟩) (m) (m))) ((hoff22 5 rfl).trans (hF18 5))) ?_
      refine RL.call rfl rfl (by decide) (r_call (vl := [(.slice (some ⟨b12, 0, none⟩) (m) (m))]) ent58 rfl) (r01_trim (hb14.sc (D := fun _ _ => True) (Nat.le_refl _) (by omega) trivial) (by assumption) (by first | omega | simp)) ?_
      rintro vr59 w57 ⟨hr60, he58⟩
      have he58z := he58.size
      replace hx := hx.tr (Sm.ext he58)
      replace hy := hy.tr (Sm.ext he58)
      replace hE := Below.ext hE (by omega) he58
      replace hb14 := hb14.ext he58
      have hlt61 : (digs (val P)).length ≤ P.length := len_le_of (by assumption)
      refine RL.val rfl rfl (by decide) (r_assign_as (v := vr59) rfl) ?_
      refine RL.nil ?_
      refine wret ?_
      refine ⟨[vr59], ⟨rfl, trivial⟩, ?_⟩
      have hres := hr60
      rw [add_fin lmx lmy hP (by omega) hv] at hres
      exact ⟨hres.mono (fun b T h => by first | exact ⟨by have := h.1; omega, h.2⟩ | exact ⟨by have := h.1; omega, h.2.1⟩ | exact ⟨by have := h.1; omega, h.2, by have := h.1; omega⟩ | exact ⟨by have := h.1; omega, h.2.1, by have := h.1; omega⟩ | exact ⟨by have := h.1; omega, h.2.1, h.2.2⟩), hE⟩

set_option maxHeartbeats 1000000 in
theorem r01_sub {w : World} {Dx : Nat → TypeId → Prop} {vx : Value} {x : List Nat} (hx : Sg (gN .u32) Dx w vx x) (lmx : Lm x) (lnx : x.length ≤ 1099511627776) {Dy : Nat → TypeId → Prop} {vy : Value} {y : List Nat} (hy : Sg (gN .u32) Dy w vy y) (lmy : Lm y) (lny : y.length ≤ 1099511627776) :
    Calls Try.prog 63 #[vx, vy] w fun e w' => ∃ v, e = .returned v ∧ (∃ vr, v = .tuple #[vr, .bool (decide (val y ≤ val x))] ∧ Sg (gN .u32) (fun b T => w.heap.size ≤ b ∧ T = 52) w' vr (digs (val x - val y))) ∧ Ext w w' := by
  have hE : Below w.heap.size w w := Below.refl _ _
  refine calls_of (n := 59) (rs := [.tmp 4, .tmp 5]) Try.func63 rfl rfl rfl (Nat.le_of_ble_eq_true rfl) ?_
  refine wset fun F0 hF0 => ?_
  refine wseq ?_
  refine wregion ?_
  refine RL.val rfl rfl (by decide) (r_assign_as (v := (.slice none (0) (0))) rfl) ?_
  refine RL.val rfl rfl (by decide) (r_assign_as (v := (.bool (false))) rfl) ?_
  refine RL.nil ?_
  refine wseq ?_
  refine wseq ?_
  refine wregion ?_
  refine RL.val rfl rfl (by decide) (r_move_as (v := vx) (hF0 0)) ?_
  refine RL.val rfl rfl (by decide) (r_move_as (v := vy) (hF0 1)) ?_
  refine RL.call rfl rfl (by decide) (r_call (vl := [vx, vy]) ent64 rfl) (r01_compare hx (by assumption) (by first | omega | simp) hy (by assumption) (by first | omega | simp)) ?_
  rintro _ w1 ⟨rfl, he2⟩
  have he2z := he2.size
  replace hx := hx.tr (Sm.ext he2)
  replace hy := hy.tr (Sm.ext he2)
  replace hE := Below.ext hE (by omega) he2
  refine RL.val rfl rfl (by decide) (r_lss (k := .i64) (a := cmpI ((val x : Nat) : Int) ((val y : Nat) : Int)) (b := 0) rfl rfl) ?_
  refine RL.nil ?_
  refine wcond (b := decide ((cmpI ((val x : Nat) : Int) ((val y : Nat) : Int)) < 0)) rfl (fun hb3 => ?_) (fun hb3 => ?_)
  · have hb3p := hb3
    replace hb3p := of_decide_eq_true hb3p
    have hlt : val x < val y := by have := cmpI_neg.1 hb3p; omega
    refine wseq ?_
    refine wregion ?_
    refine RL.val rfl rfl (by decide) (r_assign_as (v := (.slice none (0) (0))) rfl) ?_
    refine RL.val rfl rfl (by decide) (r_assign_as (v := (.bool (false))) rfl) ?_
    refine RL.nil ?_
    refine wret ?_
    refine ⟨[(.slice none (0) (0)), (.bool (false))], ⟨rfl, ⟨rfl, trivial⟩⟩, ?_⟩
    exact ⟨⟨_, by rw [decide_eq_false (by omega)]; rfl, by rw [show val x - val y = 0 by omega]; exact Sg.nil⟩, hE⟩
  · have hb3p := hb3
    replace hb3p := of_decide_eq_false hb3p
    have hge : val y ≤ val x := by rcases Nat.lt_or_ge (val x) (val y) with h | h; exact absurd (cmpI_neg.2 (by omega)) hb3p; exact h
    refine wskip ?_
    refine wseq ?_
    refine wregion ?_
    refine RL.val rfl rfl (by decide) (r_move_as (v := vx) (hF0 0)) ?_
    refine RL.call rfl rfl (by decide) (r_call (vl := [vx]) ent58 rfl) (r01_trim hx (by assumption) (by first | omega | simp)) ?_
    rintro vr6 w4 ⟨hr7, he5⟩
    have he5z := he5.size
    replace hx := hx.tr (Sm.ext he5)
    replace hy := hy.tr (Sm.ext he5)
    replace hE := Below.ext hE (by omega) he5
    have hlt8 : (digs (val x)).length ≤ x.length := len_le_of (by assumption)
    refine RL.val rfl rfl (by decide) (r_move_as (v := vy) (hF0 1)) ?_
    refine RL.call rfl rfl (by decide) (r_call (vl := [vy]) ent58 rfl) (r01_trim hy (by assumption) (by first | omega | simp)) ?_
    rintro vr11 w9 ⟨hr12, he10⟩
    have he10z := he10.size
    replace hx := hx.tr (Sm.ext he10)
    replace hy := hy.tr (Sm.ext he10)
    replace hE := Below.ext hE (by omega) he10
    replace hr7 := hr7.tr (Sm.ext he10)
    have hlt13 : (digs (val y)).length ≤ y.length := len_le_of (by assumption)
    refine RL.val rfl rfl (by decide) (r_assign_as (v := vr6) rfl) ?_
    refine RL.val rfl rfl (by decide) (r_assign_as (v := vr11) rfl) ?_
    refine RL.nil ?_
    refine wseq ?_
    have hlen : (digs (val y)).length ≤ (digs (val x)).length := len_mono hge
    replace hr7 := hr7.old
    replace hr12 := hr12.old
    refine wregion ?_
    refine RL.val rfl rfl (by decide) (r_move_as (v := vr6) rfl) ?_
    obtain ⟨A14, c15, hv16, hc17, hc18⟩ := hr7.len
    refine RL.val rfl rfl (by decide) (r_len Try.underlying38 hv16) ?_
    have hn24 : ((((digs (val x)).length : Nat) : Int) : Int) = (((digs (val x)).length : Nat) : Int) := by omega
    refine RL.run rfl rfl (by decide) (h_make1 (n := (digs (val x)).length) Try.underlying38 ty52 rfl (int_eq hn24) (int_eq hn24) (by omega) (by omega)) ?_
    rintro _ w19 ⟨b20, rfl, hs23, hb22, he21⟩
    have he21z := he21.size
    replace hx := hx.tr (Sm.ext he21)
    replace hy := hy.tr (Sm.ext he21)
    replace hE := Below.ext hE (by omega) he21
    replace hr7 := hr7.tr (Sm.ext he21)
    replace hr12 := hr12.tr (Sm.ext he21)
    replace hb22 := Ar.made (g := (gN .u32)) (z := (0 : Nat)) hb22 rfl
    have hb22l := hb22.lt
    refine RL.val rfl rfl (by decide) (r_assign_as (v := (.slice (some ⟨b20, 0, none⟩) ((digs (val x)).length) ((digs (val x)).length))) rfl) ?_
    refine RL.nil ?_
    refine wseq ?_
    refine wregion ?_
    refine RL.val rfl rfl (by decide) (r_assign_as (v := (.int .u64 (0))) rfl) ?_
    refine RL.nil ?_
    refine wseq ?_
    refine wseq ?_
    refine wregion ?_
    refine RL.val rfl rfl (by decide) (r_assign_as (v := (.int .i64 (0))) rfl) ?_
    refine RL.nil ?_
    refine wblock ?_
    refine wset fun F25 hF26 => ?_
    refine wloop (σ := Nat × Nat × List Nat) (fun (s : Nat × Nat × List Nat) fl wl => match s with | (k, c, P) => Off [7, 8, 9, 10, 22, 23, 24, 25, 26, 27, 28, 29, 30, 31, 32, 33, 34, 35, 36, 37, 38, 39, 40, 41, 42, 43, 44, 45, 46, 47, 48, 49, 50, 51, 52, 53, 54, 55, 56] F25 fl ∧ fl 8 = (.int .i64 (((k : Nat) : Int))) ∧ fl 7 = (.int .u64 (((c : Nat) : Int))) ∧ (k ≤ (digs (val x)).length) ∧ (P.length = k) ∧ (Lm P) ∧ (c ≤ 1) ∧ (val P + val ((digs (val y)).take k) = val ((digs (val x)).take k) + 4294967296 ^ k * c) ∧ (Sg (gN .u32) (fun b T => (fun b T => w1.heap.size ≤ b ∧ T = 52) b T ∧ b < w9.heap.size) wl vr6 (digs (val x))) ∧ (Sg (gN .u32) (fun b T => (fun b T => w4.heap.size ≤ b ∧ T = 52) b T ∧ b < w9.heap.size) wl vr11 (digs (val y))) ∧ (Ar (gN .u32) wl b20 52 0 (fillN P (digs (val x)).length) ((digs (val x)).length)) ∧ (Below w.heap.size w wl) ∧ (w19.heap.size ≤ wl.heap.size)) (fun (s : Nat × Nat × List Nat) => match s with | (k, c, P) => (digs (val x)).length - k) (0, 0, []) ?_ ?_
    · exact ⟨Off.refl _ _, (hF26 8).trans (rfl), (hF26 7).trans (rfl), Nat.zero_le _, rfl, Lm.nil, Nat.zero_le _, rfl, hr7, hr12, (by rw [fillN_nil]; exact hb22), hE, Nat.le_refl _⟩
    · clear hx hy hE hr7 hr12 hb22
      rintro ⟨k, c, P⟩ f28 w29 ⟨hoff30, hs31, hs32, hk, hP, hLm, hc, hv, hr7, hr12, hb22, hE, hz27⟩
      refine wseq ?_
      refine wseq ?_
      refine wregion ?_
      refine RL.val rfl rfl (by decide) (r_move_as (v := (.int .i64 (((k : Nat) : Int)))) hs31) ?_
      refine RL.val rfl rfl (by decide) (r_move_as (v := vr6) ((hoff30 0 rfl).trans (hF26 0))) ?_
      refine RL.val rfl rfl (by decide) (r_len Try.underlying38 hv16) ?_
      refine RL.val rfl rfl (by decide) (r_lss (k := .i64) (a := ((k : Nat) : Int)) (b := (((digs (val x)).length : Nat) : Int)) rfl rfl) ?_
      refine RL.nil ?_
      refine wcond (b := decide (((k : Nat) : Int) < (((digs (val x)).length : Nat) : Int))) rfl (fun hb33 => ?_) (fun hb33 => ?_)
      · have hb33p := hb33
        replace hb33p := of_decide_eq_true hb33p
        refine wskip ?_
        refine wseq ?_
        refine wblock ?_
        refine wseq ?_
        refine wregion ?_
        refine RL.val rfl rfl (by decide) (r_move_as (v := (.int .u64 (((c : Nat) : Int)))) hs32) ?_
        refine RL.val rfl rfl (by decide) (r_assign_as (v := (.int .u64 (((c : Nat) : Int)))) rfl) ?_
        refine RL.nil ?_
        refine wset fun F34 hF35 => ?_
        refine wcut (fun fl wl => Off [9, 29, 30, 31, 32, 33, 34, 35, 36, 37, 38, 39] F34 fl ∧ fl 9 = (.int .u64 (((c + dig (digs (val y)) k : Nat) : Int))) ∧ (Sg (gN .u32) (fun b T => (fun b T => w1.heap.size ≤ b ∧ T = 52) b T ∧ b < w9.heap.size) wl vr6 (digs (val x))) ∧ (Sg (gN .u32) (fun b T => (fun b T => w4.heap.size ≤ b ∧ T = 52) b T ∧ b < w9.heap.size) wl vr11 (digs (val y))) ∧ (Ar (gN .u32) wl b20 52 0 (fillN P (digs (val x)).length) ((digs (val x)).length)) ∧ (Below w.heap.size w wl) ∧ (w29.heap.size ≤ wl.heap.size)) ?_ ?_
        · have hoff37 := Off.refl [9, 29, 30, 31, 32, 33, 34, 35, 36, 37, 38, 39] F34
          refine wseq ?_
          refine wregion ?_
          refine RL.val rfl rfl (by decide) (r_move_as (v := (.int .i64 (((k : Nat) : Int)))) ((hF35 8).trans hs31)) ?_
          refine RL.val rfl rfl (by decide) (r_move_as (v := vr11) ((hF35 1).trans ((hoff30 1 rfl).trans (hF26 1)))) ?_
          obtain ⟨A38, c39, hv40, hc41, hc42⟩ := hr12.len
          refine RL.val rfl rfl (by decide) (r_len Try.underlying38 hv40) ?_
          refine RL.val rfl rfl (by decide) (r_lss (k := .i64) (a := ((k : Nat) : Int)) (b := (((digs (val y)).length : Nat) : Int)) rfl rfl) ?_
          refine RL.nil ?_
          refine wcond (b := decide (((k : Nat) : Int) < (((digs (val y)).length : Nat) : Int))) rfl (fun hb43 => ?_) (fun hb43 => ?_)
          · have hb43p := hb43
            replace hb43p := of_decide_eq_true hb43p
            refine wregion ?_
            refine RL.val rfl rfl (by decide) (r_move_as (v := (.int .u64 (((c : Nat) : Int)))) (hF35 9)) ?_
            refine RL.val rfl rfl (by decide) (r_move_as (v := vr11) ((hF35 1).trans ((hoff30 1 rfl).trans (hF26 1)))) ?_
            refine RL.val rfl rfl (by decide) (r_move_as (v := (.int .i64 (((k : Nat) : Int)))) ((hF35 8).trans hs31)) ?_
            obtain ⟨b44, o45, c46, hv47, hc48⟩ := hr12.ix (i := ((k : Nat) : Int)) (k) (by omega) (by omega)
            refine RL.val rfl rfl (by decide) (r_indexAddr (i := ((k : Nat) : Int)) Try.underlying38 ty52 hv47 rfl (by omega) (by omega)) ?_
            refine RL.val rfl rfl (by decide) (r_load (v := (.int .u32 ((((digs (val y)).getD (k) default : Nat) : Int)))) Try.underlying52 ag52 rfl hc48) ?_
            refine RL.val rfl rfl (by decide) (r_conv (k := .u64) (a := (((digs (val y)).getD (k) default : Nat) : Int)) (c := (((digs (val y)).getD (k) default : Nat) : Int)) Try.underlying52 Try.underlying33 rfl (wu64 (by have := (digs_lm (val y)).at (k := k) (by omega); omega))) ?_
            refine RL.val rfl rfl (by decide) (r_add (k := .u64) (a := ((c : Nat) : Int)) (b := (((digs (val y)).getD (k) default : Nat) : Int)) (c := ((c : Nat) : Int) + (((digs (val y)).getD (k) default : Nat) : Int)) rfl rfl (wu64 (by have := (digs_lm (val y)).at (k := k) (by omega); omega))) ?_
            refine RL.val rfl rfl (by decide) (r_assign_as (v := (.int .u64 (((c : Nat) : Int) + (((digs (val y)).getD (k) default : Nat) : Int)))) rfl) ?_
            refine RL.nil ?_
            refine ⟨?_, ?_, ?_, ?_, ?_, ?_, ?_⟩
            · exact (by repeat (first | exact hoff37 | refine Off.st ?_ (by decide) _ | refine Off.via hoff30 (by decide) ?_ | refine Off.eq hF26 ?_))
            · first | exact int_eq (by rw [dig_t (xs := digs (val y)) (by omega)]; omega) | exact int_eq (by rw [dig_f (xs := digs (val y)) (by omega)]; omega)
            · omega
            · omega
            · exact hb22
            · exact hE
            · omega
          · have hb43p := hb43
            replace hb43p := of_decide_eq_false hb43p
            refine wskip ?_
            refine ⟨?_, ?_, ?_, ?_, ?_, ?_, ?_⟩
            · exact (by repeat (first | exact hoff37 | refine Off.st ?_ (by decide) _ | refine Off.via hoff30 (by decide) ?_ | refine Off.eq hF26 ?_))
            · refine ((hF35 9)).trans ?_
              first | exact int_eq (by rw [dig_t (xs := digs (val y)) (by omega)]; omega) | exact int_eq (by rw [dig_f (xs := digs (val y)) (by omega)]; omega)
            · omega
            · omega
            · exact hb22
            · exact hE
            · omega
        · clear hE hr7 hr12 hb22
          rintro f49 w50 ⟨hoff51, hs52, hr7, hr12, hb22, hE, hz36⟩
          refine wseq ?_
          have hxk := (digs_lm (val x)).at (k := k) (by omega)
          have hyk := dig_lt (digs_lm (val y)) k
          refine wregion ?_
          refine RL.val rfl rfl (by decide) (r_move_as (v := vr6) ((hoff51 0 rfl).trans ((hF35 0).trans ((hoff30 0 rfl).trans (hF26 0))))) ?_
          refine RL.val rfl rfl (by decide) (r_move_as (v := (.int .i64 (((k : Nat) : Int)))) ((hoff51 8 rfl).trans ((hF35 8).trans hs31))) ?_
          obtain ⟨b53, o54, c55, hv56, hc57⟩ := hr7.ix (i := ((k : Nat) : Int)) (k) (by omega) (by omega)
          refine RL.val rfl rfl (by decide) (r_indexAddr (i := ((k : Nat) : Int)) Try.underlying38 ty52 hv56 rfl (by omega) (by omega)) ?_
          refine RL.val rfl rfl (by decide) (r_load (v := (.int .u32 ((((digs (val x)).getD (k) default : Nat) : Int)))) Try.underlying52 ag52 rfl hc57) ?_
          refine RL.val rfl rfl (by decide) (r_conv (k := .u64) (a := (((digs (val x)).getD (k) default : Nat) : Int)) (c := (((digs (val x)).getD (k) default : Nat) : Int)) Try.underlying52 Try.underlying33 rfl (wu64 (by omega))) ?_
          refine RL.val rfl rfl (by decide) (r_assign_as (v := (.int .u64 ((((digs (val x)).getD (k) default : Nat) : Int)))) rfl) ?_
          refine RL.nil ?_
          refine wseq ?_
          refine wregion ?_
          refine RL.val rfl rfl (by decide) (r_assign_as (v := (.int .u64 (0))) rfl) ?_
          refine RL.nil ?_
          refine wset fun F58 hF59 => ?_
          refine wcut (fun fl wl => Off [7, 10, 45, 46, 47, 48, 49] F58 fl ∧ fl 10 = (.int .u64 (((if (digs (val x)).getD k default < c + dig (digs (val y)) k then (digs (val x)).getD k default + 4294967296 else (digs (val x)).getD k default : Nat) : Int))) ∧ fl 7 = (.int .u64 (((if (digs (val x)).getD k default < c + dig (digs (val y)) k then 1 else 0 : Nat) : Int))) ∧ (Sg (gN .u32) (fun b T => (fun b T => w1.heap.size ≤ b ∧ T = 52) b T ∧ b < w9.heap.size) wl vr6 (digs (val x))) ∧ (Sg (gN .u32) (fun b T => (fun b T => w4.heap.size ≤ b ∧ T = 52) b T ∧ b < w9.heap.size) wl vr11 (digs (val y))) ∧ (Ar (gN .u32) wl b20 52 0 (fillN P (digs (val x)).length) ((digs (val x)).length)) ∧ (Below w.heap.size w wl) ∧ (w50.heap.size ≤ wl.heap.size)) ?_ ?_
          · have hoff61 := Off.refl [7, 10, 45, 46, 47, 48, 49] F58
            refine wseq ?_
            refine wregion ?_
            refine RL.val rfl rfl (by decide) (r_move_as (v := (.int .u64 ((((digs (val x)).getD (k) default : Nat) : Int)))) (hF59 10)) ?_
            refine RL.val rfl rfl (by decide) (r_move_as (v := (.int .u64 (((c + dig (digs (val y)) k : Nat) : Int)))) ((hF59 9).trans hs52)) ?_
            refine RL.val rfl rfl (by decide) (r_lss (k := .u64) (a := (((digs (val x)).getD (k) default : Nat) : Int)) (b := ((c + dig (digs (val y)) k : Nat) : Int)) rfl rfl) ?_
            refine RL.nil ?_
            refine wcond (b := decide ((((digs (val x)).getD (k) default : Nat) : Int) < ((c + dig (digs (val y)) k : Nat) : Int))) rfl (fun hb62 => ?_) (fun hb62 => ?_)
            · have hb62p := hb62
              replace hb62p := of_decide_eq_true hb62p
              refine wseq ?_
              refine wregion ?_
              refine RL.val rfl rfl (by decide) (r_move_as (v := (.int .u64 ((((digs (val x)).getD (k) default : Nat) : Int)))) (hF59 10)) ?_
              refine RL.val rfl rfl (by decide) (r_add (k := .u64) (a := (((digs (val x)).getD (k) default : Nat) : Int)) (b := 4294967296) (c := (((digs (val x)).getD (k) default : Nat) : Int) + 4294967296) rfl rfl (wu64 (by omega))) ?_
              refine RL.val rfl rfl (by decide) (r_assign_as (v := (.int .u64 ((((digs (val x)).getD (k) default : Nat) : Int) + 4294967296))) rfl) ?_
              refine RL.nil ?_
              refine wregion ?_
              refine RL.val rfl rfl (by decide) (r_assign_as (v := (.int .u64 (1))) rfl) ?_
              refine RL.nil ?_
              refine ⟨?_, ?_, ?_, ?_, ?_, ?_, ?_, ?_⟩
              · exact (by repeat (first | exact hoff61 | refine Off.st ?_ (by decide) _ | refine Off.via hoff51 (by decide) ?_ | refine Off.eq hF35 ?_ | refine Off.via hoff30 (by decide) ?_ | refine Off.eq hF26 ?_))
              · exact int_eq (by split <;> omega)
              · exact int_eq (by split <;> omega)
              · omega
              · omega
              · exact hb22
              · exact hE
              · omega
            · have hb62p := hb62
              replace hb62p := of_decide_eq_false hb62p
              refine wskip ?_
              refine ⟨?_, ?_, ?_, ?_, ?_, ?_, ?_, ?_⟩
              · exact (by repeat (first | exact hoff61 | refine Off.st ?_ (by decide) _ | refine Off.via hoff51 (by decide) ?_ | refine Off.eq hF35 ?_ | refine Off.via hoff30 (by decide) ?_ | refine Off.eq hF26 ?_))
              · refine ((hF59 10)).trans ?_
                exact int_eq (by split <;> omega)
              · refine ((hF59 7)).trans ?_
                exact int_eq (by split <;> omega)
              · omega
              · omega
              · exact hb22
              · exact hE
              · omega
          · clear hE hr7 hr12 hb22
            rintro f63 w64 ⟨hoff65, hs66, hs67, hr7, hr12, hb22, hE, hz60⟩
            refine wregion ?_
            refine RL.val rfl rfl (by decide) (r_move_as (v := (.slice (some ⟨b20, 0, none⟩) ((digs (val x)).length) ((digs (val x)).length))) ((hoff65 6 rfl).trans ((hF59 6).trans ((hoff51 6 rfl).trans ((hF35 6).trans ((hoff30 6 rfl).trans (hF26 6))))))) ?_
            refine RL.val rfl rfl (by decide) (r_move_as (v := (.int .i64 (((k : Nat) : Int)))) ((hoff65 8 rfl).trans ((hF59 8).trans ((hoff51 8 rfl).trans ((hF35 8).trans hs31))))) ?_
            refine RL.val rfl rfl (by decide) (r_move_as (v := (.int .u64 (((if (digs (val x)).getD k default < c + dig (digs (val y)) k then (digs (val x)).getD k default + 4294967296 else (digs (val x)).getD k default : Nat) : Int)))) hs66) ?_
            refine RL.val rfl rfl (by decide) (r_move_as (v := (.int .u64 (((c + dig (digs (val y)) k : Nat) : Int)))) ((hoff65 9 rfl).trans ((hF59 9).trans hs52))) ?_
            refine RL.val rfl rfl (by decide) (r_sub (k := .u64) (a := ((if (digs (val x)).getD k default < c + dig (digs (val y)) k then (digs (val x)).getD k default + 4294967296 else (digs (val x)).getD k default : Nat) : Int)) (b := ((c + dig (digs (val y)) k : Nat) : Int)) (c := (((if (digs (val x)).getD k default < c + dig (digs (val y)) k then (digs (val x)).getD k default + 4294967296 else (digs (val x)).getD k default) - (c + dig (digs (val y)) k) : Nat) : Int)) rfl rfl ((wu64 (by split <;> omega)).trans (by split <;> omega))) ?_
            refine RL.val rfl rfl (by decide) (r_conv (k := .u32) (a := (((if (digs (val x)).getD k default < c + dig (digs (val y)) k then (digs (val x)).getD k default + 4294967296 else (digs (val x)).getD k default) - (c + dig (digs (val y)) k) : Nat) : Int)) (c := ((((if (digs (val x)).getD k default < c + dig (digs (val y)) k then (digs (val x)).getD k default + 4294967296 else (digs (val x)).getD k default) - (c + dig (digs (val y)) k)) % 4294967296 : Nat) : Int)) Try.underlying33 Try.underlying52 rfl (cu32 _)) ?_
            refine RL.val rfl rfl (by decide) (r_indexAddr (i := ((k : Nat) : Int)) Try.underlying38 ty52 rfl rfl (by omega) (by omega)) ?_
            refine RL.runs rfl rfl (h_set (g := (gN .u32)) (vv := (.int .u32 (((((if (digs (val x)).getD k default < c + dig (digs (val y)) k then (digs (val x)).getD k default + 4294967296 else (digs (val x)).getD k default) - (c + dig (digs (val y)) k)) % 4294967296 : Nat) : Int)))) (u := ((digs (val x)).getD k default + 4294967296 - (c + dig (digs (val y)) k)) % 4294967296) (i := ((k : Nat) : Int)) ty52 rfl rfl (int_eq (by split <;> omega)) rfl rfl hb22 (k) (by omega) (by omega)) ?_
            rintro w68 ⟨ha69, hx70⟩
            have hx70z := hx70.size
            replace hE := Below.exc hE (by omega) hx70 (by omega)
            replace hr7 := hr7.tr (hb22.sm hx70 (by (intro h; have := h.2; omega)))
            replace hr12 := hr12.tr (hb22.sm hx70 (by (intro h; have := h.2; omega)))
            replace hb22 := ha69
            refine RL.nil ?_
            refine wregion ?_
            refine RL.val rfl rfl (by decide) (r_move_as (v := (.int .i64 (((k : Nat) : Int)))) ((hoff65 8 rfl).trans ((hF59 8).trans ((hoff51 8 rfl).trans ((hF35 8).trans hs31))))) ?_
            refine RL.val rfl rfl (by decide) (r_add (k := .i64) (a := ((k : Nat) : Int)) (b := 1) (c := ((k : Nat) : Int) + 1) rfl rfl (wi64 (by omega))) ?_
            refine RL.val rfl rfl (by decide) (r_assign_as (v := (.int .i64 (((k : Nat) : Int) + 1))) rfl) ?_
            refine RL.nil ?_
            refine ⟨(k + 1, (if (digs (val x)).getD k default < c + dig (digs (val y)) k then 1 else 0), P ++ [((digs (val x)).getD k default + 4294967296 - (c + dig (digs (val y)) k)) % 4294967296]), ⟨?_, ?_, ?_, ?_, ?_, ?_, ?_, ?_, ?_, ?_, ?_, ?_, ?_⟩, ?_⟩
            · exact (by repeat (first | exact hoff30 | refine Off.st ?_ (by decide) _ | refine Off.via hoff65 (by decide) ?_ | refine Off.eq hF59 ?_ | refine Off.via hoff51 (by decide) ?_ | refine Off.eq hF35 ?_))
            · first | rfl | exact int_eq (by omega) | exact bool_eq (by simp)
            · refine (hs67).trans ?_
              exact int_eq (by split <;> rfl)
            · omega
            · rw [List.length_append, hP]; rfl
            · exact hLm.snoc (Nat.mod_lt _ (by decide))
            · split <;> omega
            · rw [val_take_dig, val_take_succ (xs := digs (val x)) (by omega)]; exact sub_step hP hv hxk hyk hc
            · exact hr7
            · exact hr12
            · rw [fillN_set hP (by omega)] at hb22; exact hb22
            · exact hE
            · omega
            · (try dsimp only)
              omega
      · have hb33p := hb33
        replace hb33p := of_decide_eq_false hb33p
        refine wexit ?_
        refine wseq ?_
        have hkm : k = (digs (val x)).length := by omega
        rw [fillN_full (by omega)] at hb22
        refine wregion ?_
        refine RL.val rfl rfl (by decide) (r_move_as (v := (.slice (some ⟨b20, 0, none⟩) ((digs (val x)).length) ((digs (val x)).length))) ((hoff30 6 rfl).trans (hF26 6))) ?_
        refine RL.call rfl rfl (by decide) (r_call (vl := [(.slice (some ⟨b20, 0, none⟩) ((digs (val x)).length) ((digs (val x)).length))]) ent58 rfl) (r01_trim (hb22.sc (D := fun _ _ => True) (Nat.le_refl _) (by omega) trivial) (by assumption) (by first | omega | simp)) ?_
        rintro vr73 w71 ⟨hr74, he72⟩
        have he72z := he72.size
        replace hE := Below.ext hE (by omega) he72
        replace hr7 := hr7.tr (Sm.ext he72)
        replace hr12 := hr12.tr (Sm.ext he72)
        replace hb22 := hb22.ext he72
        have hlt75 : (digs (val P)).length ≤ P.length := len_le_of (by assumption)
        refine RL.val rfl rfl (by decide) (r_assign_as (v := vr73) rfl) ?_
        refine RL.val rfl rfl (by decide) (r_assign_as (v := (.bool (true))) rfl) ?_
        refine RL.nil ?_
        refine wret ?_
        refine ⟨[vr73, (.bool (true))], ⟨rfl, ⟨rfl, trivial⟩⟩, ?_⟩
        have hres := hr74
        have hf := sub_fin hLm hP (by omega) (by omega) (by rw [val_digs, val_digs]; exact hge) hv
        rw [val_digs, val_digs] at hf
        rw [hf] at hres
        exact ⟨⟨_, by rw [decide_eq_true hge]; rfl, hres.mono (fun b T h => by first | exact ⟨by have := h.1; omega, h.2⟩ | exact ⟨by have := h.1; omega, h.2.1⟩ | exact ⟨by have := h.1; omega, h.2, by have := h.1; omega⟩ | exact ⟨by have := h.1; omega, h.2.1, by have := h.1; omega⟩ | exact ⟨by have := h.1; omega, h.2.1, h.2.2⟩)⟩, hE⟩

end Go.Proofs.Ytppgppnkhpjlpaa
