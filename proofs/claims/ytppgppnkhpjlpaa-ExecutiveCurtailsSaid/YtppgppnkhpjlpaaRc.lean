/- Walks, printed by program. -/
import Derived.Test.YtppgppnkhpjlpaaRb
namespace Go.Proofs.Ytppgppnkhpjlpaa
open Go.Vg Go.RowKit
set_option linter.unusedVariables false

open Go.Vm
set_option maxHeartbeats 1000000 in
theorem r01_mul {w : World} {Dx : Nat → TypeId → Prop} {vx : Value} {x : List Nat} (hx0 : Sg (gN .u32) Dx w vx x) (lmx : Lm x) (lnx : x.length ≤ 1099511627776) {Dy : Nat → TypeId → Prop} {vy : Value} {y : List Nat} (hy0 : Sg (gN .u32) Dy w vy y) (lmy : Lm y) (lny : y.length ≤ 1099511627776) :
    Calls Try.prog 52 #[vx, vy] w fun e w' => ∃ v, e = .returned v ∧ Sg (gN .u32) (fun b T => w.heap.size ≤ b ∧ T = 52) w' v (digs (val x * val y)) ∧ Ext w w' := by
  have hE : Below w.heap.size w w := Below.refl _ _
  have hx := hx0.old
  clear hx0
  have hy := hy0.old
  clear hy0
  refine calls_of (n := 67) (rs := [.tmp 4]) Try.func52 rfl rfl rfl (Nat.le_of_ble_eq_true rfl) ?_
  refine wset fun F0 hF0 => ?_
  refine wseq ?_
  refine wregion ?_
  refine RL.val rfl rfl (by decide) (r_assign_as (v := (.slice none (0) (0))) rfl) ?_
  refine RL.nil ?_
  refine wseq ?_
  refine wregion ?_
  refine RL.val rfl rfl (by decide) (r_move_as (v := vx) (hF0 0)) ?_
  obtain ⟨A1, c2, hv3, hc4, hc5⟩ := hx.len
  refine RL.val rfl rfl (by decide) (r_len Try.underlying38 hv3) ?_
  refine RL.val rfl rfl (by decide) (r_move_as (v := vy) (hF0 1)) ?_
  obtain ⟨A6, c7, hv8, hc9, hc10⟩ := hy.len
  refine RL.val rfl rfl (by decide) (r_len Try.underlying38 hv8) ?_
  refine RL.val rfl rfl (by decide) (r_add (k := .i64) (a := ((x.length : Nat) : Int)) (b := ((y.length : Nat) : Int)) (c := ((x.length : Nat) : Int) + ((y.length : Nat) : Int)) rfl rfl (wi64 (by omega))) ?_
  have hn16 : (((x.length : Nat) : Int) + ((y.length : Nat) : Int) : Int) = ((x.length + y.length : Nat) : Int) := by omega
  refine RL.run rfl rfl (by decide) (h_make1 (n := x.length + y.length) Try.underlying38 ty52 rfl (int_eq hn16) (int_eq hn16) (by omega) (by omega)) ?_
  rintro _ w11 ⟨b12, rfl, hs15, hb14, he13⟩
  have he13z := he13.size
  replace hx := hx.tr (Sm.ext he13)
  replace hy := hy.tr (Sm.ext he13)
  replace hE := Below.ext hE (by omega) he13
  replace hb14 := Ar.made (g := (gN .u32)) (z := (0 : Nat)) hb14 rfl
  have hb14l := hb14.lt
  refine RL.val rfl rfl (by decide) (r_assign_as (v := (.slice (some ⟨b12, 0, none⟩) (x.length + y.length) (x.length + y.length))) rfl) ?_
  refine RL.nil ?_
  refine wseq ?_
  refine wseq ?_
  refine wregion ?_
  refine RL.val rfl rfl (by decide) (r_assign_as (v := (.int .i64 (0))) rfl) ?_
  refine RL.nil ?_
  refine wblock ?_
  refine wset fun F17 hF18 => ?_
  refine wloop (σ := Nat × List Nat) (fun (s : Nat × List Nat) fl wl => match s with | (i, O) => Off [6, 7, 8, 15, 16, 17, 18, 19, 20, 21, 22, 23, 24, 25, 26, 27, 28, 29, 30, 31, 32, 33, 34, 35, 36, 37, 38, 39, 40, 41, 42, 43, 44, 45, 46, 47, 48, 49, 50, 51, 52, 53, 54, 55, 56, 57, 58, 59, 60, 61, 62, 63, 64] F17 fl ∧ fl 6 = (.int .i64 (((i : Nat) : Int))) ∧ (i ≤ x.length) ∧ (O.length = x.length + y.length) ∧ (Lm O) ∧ (∀ j, i + y.length ≤ j → j < O.length → O.getD j default = 0) ∧ (val (O.take (i + y.length)) = val (x.take i) * val y) ∧ (Sg (gN .u32) (fun b T => Dx b T ∧ b < w.heap.size) wl vx x) ∧ (Sg (gN .u32) (fun b T => Dy b T ∧ b < w.heap.size) wl vy y) ∧ (Ar (gN .u32) wl b12 52 0 O (x.length + y.length)) ∧ (Below w.heap.size w wl) ∧ (w11.heap.size ≤ wl.heap.size)) (fun (s : Nat × List Nat) => match s with | (i, O) => x.length - i) (0, List.replicate (x.length + y.length) 0) ?_ ?_
  · exact ⟨Off.refl _ _, (hF18 6).trans (rfl), Nat.zero_le _, by simp, Lm.zeros _, (fun j _ hj => by rw [List.getD_eq_getElem?_getD, List.getElem?_replicate]; split <;> rfl), (by rw [List.take_replicate, val_zeros]; simp [val]), hx, hy, hb14, hE, Nat.le_refl _⟩
  · clear hx hy hE hb14
    rintro ⟨i, O⟩ f20 w21 ⟨hoff22, hs23, hi, hOl, hOm, hz, hv, hx, hy, hb14, hE, hz19⟩
    refine wseq ?_
    refine wseq ?_
    refine wregion ?_
    refine RL.val rfl rfl (by decide) (r_move_as (v := (.int .i64 (((i : Nat) : Int)))) hs23) ?_
    refine RL.val rfl rfl (by decide) (r_move_as (v := vx) ((hoff22 0 rfl).trans ((hF18 0).trans (hF0 0)))) ?_
    refine RL.val rfl rfl (by decide) (r_len Try.underlying38 hv3) ?_
    refine RL.val rfl rfl (by decide) (r_lss (k := .i64) (a := ((i : Nat) : Int)) (b := ((x.length : Nat) : Int)) rfl rfl) ?_
    refine RL.nil ?_
    refine wcond (b := decide (((i : Nat) : Int) < ((x.length : Nat) : Int))) rfl (fun hb24 => ?_) (fun hb24 => ?_)
    · have hb24p := hb24
      replace hb24p := of_decide_eq_true hb24p
      refine wskip ?_
      refine wseq ?_
      refine wblock ?_
      refine wseq ?_
      have hxi := lmx.at (k := i) (by omega)
      refine wregion ?_
      refine RL.val rfl rfl (by decide) (r_assign_as (v := (.int .u64 (0))) rfl) ?_
      refine RL.nil ?_
      refine wseq ?_
      refine wseq ?_
      refine wregion ?_
      refine RL.val rfl rfl (by decide) (r_assign_as (v := (.int .i64 (0))) rfl) ?_
      refine RL.nil ?_
      refine wblock ?_
      refine wset fun F25 hF26 => ?_
      refine wloop (σ := Nat × Nat × List Nat) (fun (s : Nat × Nat × List Nat) fl wl => match s with | (k, c, Q) => Off [7, 8, 21, 22, 23, 24, 25, 26, 27, 28, 29, 30, 31, 32, 33, 34, 35, 36, 37, 38, 39, 40, 41, 42, 43, 44, 45, 46, 47, 48, 49, 50, 51, 52, 53, 54, 55, 56] F25 fl ∧ fl 8 = (.int .i64 (((k : Nat) : Int))) ∧ fl 7 = (.int .u64 (((c : Nat) : Int))) ∧ (k ≤ y.length) ∧ (Q.length = k) ∧ (Lm Q) ∧ (c < 4294967296) ∧ (val Q + 4294967296 ^ k * c = val ((O.drop i).take k) + x.getD i default * val (y.take k)) ∧ (Sg (gN .u32) (fun b T => Dx b T ∧ b < w.heap.size) wl vx x) ∧ (Sg (gN .u32) (fun b T => Dy b T ∧ b < w.heap.size) wl vy y) ∧ (Ar (gN .u32) wl b12 52 0 (rowN O Q i) (x.length + y.length)) ∧ (Below w.heap.size w wl) ∧ (w21.heap.size ≤ wl.heap.size)) (fun (s : Nat × Nat × List Nat) => match s with | (k, c, Q) => y.length - k) (0, 0, []) ?_ ?_
      · exact ⟨Off.refl _ _, (hF26 8).trans (rfl), (hF26 7).trans (rfl), Nat.zero_le _, rfl, Lm.nil, by decide, rfl, hx, hy, (by rw [rowN_nil]; exact hb14), hE, Nat.le_refl _⟩
      · clear hx hy hE hb14
        rintro ⟨k, c, Q⟩ f28 w29 ⟨hoff30, hs31, hs32, hk, hQ, hQm, hc, hQv, hx, hy, hb14, hE, hz27⟩
        refine wseq ?_
        refine wseq ?_
        refine wregion ?_
        refine RL.val rfl rfl (by decide) (r_move_as (v := (.int .i64 (((k : Nat) : Int)))) hs31) ?_
        refine RL.val rfl rfl (by decide) (r_move_as (v := vy) ((hoff30 1 rfl).trans ((hF26 1).trans ((hoff22 1 rfl).trans ((hF18 1).trans (hF0 1)))))) ?_
        refine RL.val rfl rfl (by decide) (r_len Try.underlying38 hv8) ?_
        refine RL.val rfl rfl (by decide) (r_lss (k := .i64) (a := ((k : Nat) : Int)) (b := ((y.length : Nat) : Int)) rfl rfl) ?_
        refine RL.nil ?_
        refine wcond (b := decide (((k : Nat) : Int) < ((y.length : Nat) : Int))) rfl (fun hb33 => ?_) (fun hb33 => ?_)
        · have hb33p := hb33
          replace hb33p := of_decide_eq_true hb33p
          refine wskip ?_
          refine wseq ?_
          refine wblock ?_
          refine wseq ?_
          have hyk := lmy.at (k := k) (by omega)
          have hok := hOm.at (k := i + k) (by omega)
          have hxy := limb_mul hxi hyk
          obtain ⟨p, hp⟩ : ∃ p, p = x.getD i default * y.getD k default := ⟨_, rfl⟩
          rw [← hp] at hxy
          refine wdraw mixed fun w34 he35 => ?_
          have he35z := he35.size
          replace hx := hx.tr (Sm.ext he35)
          replace hy := hy.tr (Sm.ext he35)
          replace hE := Below.ext hE (by omega) he35
          replace hb14 := hb14.ext he35
          refine RA.take 0 rfl (by kernel_rfl) rfl rfl (by decide) (fun _ => r_move_as (v := (.int .u64 (((c : Nat) : Int)))) hs32) ?_
          refine RA.take 1 rfl (by kernel_rfl) rfl rfl (by decide) (fun _ => r_move_as (v := (.slice (some ⟨b12, 0, none⟩) (x.length + y.length) (x.length + y.length))) ((hoff30 5 rfl).trans ((hF26 5).trans ((hoff22 5 rfl).trans (hF18 5))))) ?_
          refine RA.take 2 rfl (by kernel_rfl) rfl rfl (by decide) (fun _ => r_move_as (v := (.int .i64 (((i : Nat) : Int)))) ((hoff30 6 rfl).trans ((hF26 6).trans hs23))) ?_
          refine RA.take 3 rfl (by kernel_rfl) rfl rfl (by decide) (fun _ => r_move_as (v := (.int .i64 (((k : Nat) : Int)))) hs31) ?_
          refine RA.take 4 rfl (by kernel_rfl) rfl rfl (by decide) (fun _ => r_add (k := .i64) (a := ((i : Nat) : Int)) (b := ((k : Nat) : Int)) (c := ((i : Nat) : Int) + ((k : Nat) : Int)) rfl rfl (wi64 (by omega))) ?_
          refine RA.take 5 rfl (by kernel_rfl) rfl rfl (by decide) (fun _ => r_indexAddr (i := ((i : Nat) : Int) + ((k : Nat) : Int)) Try.underlying38 ty52 rfl rfl (by omega) (by omega)) ?_
          have hc36 := hb14.cell (i := ((i : Nat) : Int) + ((k : Nat) : Int)) (i + k) (by omega) (by omega)
          rw [show (rowN O Q i).getD (i + k) default = O.getD (i + k) default from (rowN_at hQ (by omega))] at hc36
          refine RA.rd 6 rfl (by kernel_rfl) rfl rfl rfl (by decide) (Ext.refl _) (fun u hu => r_load (v := (.int .u32 (((O.getD (i + k) default : Nat) : Int)))) Try.underlying52 ag52 rfl (cell_ext hu hc36)) ?_
          refine RA.take 7 rfl (by kernel_rfl) rfl rfl (by decide) (fun _ => r_conv (k := .u64) (a := ((O.getD (i + k) default : Nat) : Int)) (c := ((O.getD (i + k) default : Nat) : Int)) Try.underlying52 Try.underlying33 rfl (wu64 (by omega))) ?_
          refine RA.take 8 rfl (by kernel_rfl) rfl rfl (by decide) (fun _ => r_move_as (v := vx) ((hoff30 0 rfl).trans ((hF26 0).trans ((hoff22 0 rfl).trans ((hF18 0).trans (hF0 0)))))) ?_
          refine RA.take 9 rfl (by kernel_rfl) rfl rfl (by decide) (fun _ => r_move_as (v := (.int .i64 (((i : Nat) : Int)))) ((hoff30 6 rfl).trans ((hF26 6).trans hs23))) ?_
          obtain ⟨b37, o38, c39, hv40, hc41⟩ := hx.ix (i := ((i : Nat) : Int)) (i) (by omega) (by omega)
          refine RA.take 10 rfl (by kernel_rfl) rfl rfl (by decide) (fun _ => r_indexAddr (i := ((i : Nat) : Int)) Try.underlying38 ty52 hv40 rfl (by omega) (by omega)) ?_
          refine RA.rd 11 rfl (by kernel_rfl) rfl rfl rfl (by decide) (Ext.refl _) (fun u hu => r_load (v := (.int .u32 (((x.getD (i) default : Nat) : Int)))) Try.underlying52 ag52 rfl (cell_ext hu hc41)) ?_
          refine RA.take 12 rfl (by kernel_rfl) rfl rfl (by decide) (fun _ => r_conv (k := .u64) (a := ((x.getD (i) default : Nat) : Int)) (c := ((x.getD (i) default : Nat) : Int)) Try.underlying52 Try.underlying33 rfl (wu64 (by omega))) ?_
          refine RA.take 13 rfl (by kernel_rfl) rfl rfl (by decide) (fun _ => r_move_as (v := vy) ((hoff30 1 rfl).trans ((hF26 1).trans ((hoff22 1 rfl).trans ((hF18 1).trans (hF0 1)))))) ?_
          refine RA.take 14 rfl (by kernel_rfl) rfl rfl (by decide) (fun _ => r_move_as (v := (.int .i64 (((k : Nat) : Int)))) hs31) ?_
          obtain ⟨b42, o43, c44, hv45, hc46⟩ := hy.ix (i := ((k : Nat) : Int)) (k) (by omega) (by omega)
          refine RA.take 15 rfl (by kernel_rfl) rfl rfl (by decide) (fun _ => r_indexAddr (i := ((k : Nat) : Int)) Try.underlying38 ty52 hv45 rfl (by omega) (by omega)) ?_
          refine RA.rd 16 rfl (by kernel_rfl) rfl rfl rfl (by decide) (Ext.refl _) (fun u hu => r_load (v := (.int .u32 (((y.getD (k) default : Nat) : Int)))) Try.underlying52 ag52 rfl (cell_ext hu hc46)) ?_
          refine RA.take 17 rfl (by kernel_rfl) rfl rfl (by decide) (fun _ => r_conv (k := .u64) (a := ((y.getD (k) default : Nat) : Int)) (c := ((y.getD (k) default : Nat) : Int)) Try.underlying52 Try.underlying33 rfl (wu64 (by omega))) ?_
          refine RA.take 18 rfl (by kernel_rfl) rfl rfl (by decide) (fun _ => r_mul (k := .u64) (a := ((x.getD (i) default : Nat) : Int)) (b := ((y.getD (k) default : Nat) : Int)) (c := ((x.getD i default * y.getD k default : Nat) : Int)) rfl rfl ((wu64 (by rw [← Int.natCast_mul, ← hp]; omega)).trans (by rw [Int.natCast_mul]))) ?_
          refine RA.take 19 rfl (by kernel_rfl) rfl rfl (by decide) (fun _ => r_add (k := .u64) (a := ((O.getD (i + k) default : Nat) : Int)) (b := ((x.getD i default * y.getD k default : Nat) : Int)) (c := ((O.getD (i + k) default + x.getD i default * y.getD k default : Nat) : Int)) rfl rfl ((wu64 (by rw [← hp]; omega)).trans (by omega))) ?_
          refine RA.take 20 rfl (by kernel_rfl) rfl rfl (by decide) (fun _ => r_add (k := .u64) (a := ((c : Nat) : Int)) (b := ((O.getD (i + k) default + x.getD i default * y.getD k default : Nat) : Int)) (c := ((c + (O.getD (i + k) default + x.getD i default * y.getD k default) : Nat) : Int)) rfl rfl ((wu64 (by rw [← hp]; omega)).trans (by omega))) ?_
          refine RA.take 21 rfl (by kernel_rfl) rfl rfl (by decide) (fun _ => r_assign_as (v := (.int .u64 (((c + (O.getD (i + k) default + x.getD i default * y.getD k default) : Nat) : Int)))) rfl) ?_
          refine RA.done (by kernel_rfl) ?_
          refine wseq ?_
          refine wregion ?_
          refine RL.val rfl rfl (by decide) (r_move_as (v := (.slice (some ⟨b12, 0, none⟩) (x.length + y.length) (x.length + y.length))) ((hoff30 5 rfl).trans ((hF26 5).trans ((hoff22 5 rfl).trans (hF18 5))))) ?_
          refine RL.val rfl rfl (by decide) (r_move_as (v := (.int .i64 (((i : Nat) : Int)))) ((hoff30 6 rfl).trans ((hF26 6).trans hs23))) ?_
          refine RL.val rfl rfl (by decide) (r_move_as (v := (.int .i64 (((k : Nat) : Int)))) hs31) ?_
          refine RL.val rfl rfl (by decide) (r_add (k := .i64) (a := ((i : Nat) : Int)) (b := ((k : Nat) : Int)) (c := ((i : Nat) : Int) + ((k : Nat) : Int)) rfl rfl (wi64 (by omega))) ?_
          refine RL.val rfl rfl (by decide) (r_move_as (v := (.int .u64 (((c + (O.getD (i + k) default + x.getD i default * y.getD k default) : Nat) : Int)))) rfl) ?_
          refine RL.val rfl rfl (by decide) (r_conv (k := .u32) (a := ((c + (O.getD (i + k) default + x.getD i default * y.getD k default) : Nat) : Int)) (c := (((c + (O.getD (i + k) default + x.getD i default * y.getD k default)) % 4294967296 : Nat) : Int)) Try.underlying33 Try.underlying52 rfl (cu32 _)) ?_
          refine RL.val rfl rfl (by decide) (r_indexAddr (i := ((i : Nat) : Int) + ((k : Nat) : Int)) Try.underlying38 ty52 rfl rfl (by omega) (by omega)) ?_
          refine RL.runs rfl rfl (h_set (g := (gN .u32)) (vv := (.int .u32 ((((c + (O.getD (i + k) default + x.getD i default * y.getD k default)) % 4294967296 : Nat) : Int)))) (u := (c + (O.getD (i + k) default + x.getD i default * y.getD k default)) % 4294967296) (i := ((i : Nat) : Int) + ((k : Nat) : Int)) ty52 rfl rfl rfl rfl rfl hb14 (i + k) (by omega) (by omega)) ?_
          rintro w47 ⟨ha48, hx49⟩
          have hx49z := hx49.size
          replace hx := hx.tr (hb14.sm hx49 (by (intro h; have := h.2; omega)))
          replace hy := hy.tr (hb14.sm hx49 (by (intro h; have := h.2; omega)))
          replace hE := Below.exc hE (by omega) hx49 (by omega)
          replace hb14 := ha48
          refine RL.nil ?_
          refine wregion ?_
          refine RL.val rfl rfl (by decide) (r_move_as (v := (.int .u64 (((c + (O.getD (i + k) default + x.getD i default * y.getD k default) : Nat) : Int)))) rfl) ?_
          refine RL.val rfl rfl (by decide) (r_shr (k := .u64) (a := ((c + (O.getD (i + k) default + x.getD i default * y.getD k default) : Nat) : Int)) (b := 32) (c := (((c + (O.getD (i + k) default + x.getD i default * y.getD k default)) / 4294967296 : Nat) : Int)) rfl rfl (by decide) (shr32 _)) ?_
          refine RL.val rfl rfl (by decide) (r_assign_as (v := (.int .u64 ((((c + (O.getD (i + k) default + x.getD i default * y.getD k default)) / 4294967296 : Nat) : Int)))) rfl) ?_
          refine RL.nil ?_
          refine wregion ?_
          refine RL.val rfl rfl (by decide) (r_move_as (v := (.int .i64 (((k : Nat) : Int)))) hs31) ?_
          refine RL.val rfl rfl (by decide) (r_add (k := .i64) (a := ((k : Nat) : Int)) (b := 1) (c := ((k : Nat) : Int) + 1) rfl rfl (wi64 (by omega))) ?_
          refine RL.val rfl rfl (by decide) (r_assign_as (v := (.int .i64 (((k : Nat) : Int) + 1))) rfl) ?_
          refine RL.nil ?_
          refine ⟨(k + 1, (c + (O.getD (i + k) default + x.getD i default * y.getD k default)) / 4294967296, Q ++ [(c + (O.getD (i + k) default + x.getD i default * y.getD k default)) % 4294967296]), ⟨?_, ?_, ?_, ?_, ?_, ?_, ?_, ?_, ?_, ?_, ?_, ?_, ?_⟩, ?_⟩
          · exact (by repeat (first | exact hoff30 | refine Off.st ?_ (by decide) _ | refine Off.via hoff22 (by decide) ?_ | refine Off.eq hF18 ?_))
          · first | rfl | exact int_eq (by omega) | exact bool_eq (by simp)
          · first | rfl | exact int_eq (by omega) | exact bool_eq (by simp)
          · omega
          · rw [List.length_append, hQ]; rfl
          · exact hQm.snoc (Nat.mod_lt _ (by decide))
          · omega
          · exact mul_row_step hQ (by omega) (by omega) hQv
          · exact hx
          · exact hy
          · rw [rowN_set hQ (by omega)] at hb14; exact hb14
          · exact hE
          · omega
          · (try dsimp only)
            omega
        · have hb33p := hb33
          replace hb33p := of_decide_eq_false hb33p
          refine wexit ?_
          have hky : k = y.length := by omega
          have hQe : val Q + 4294967296 ^ y.length * c = val ((O.drop i).take y.length) + x.getD i default * val y := by rw [hky, List.take_of_length_le (Nat.le_refl y.length)] at hQv; exact hQv
          refine wregion ?_
          refine RL.val rfl rfl (by decide) (r_move_as (v := (.slice (some ⟨b12, 0, none⟩) (x.length + y.length) (x.length + y.length))) ((hoff30 5 rfl).trans ((hF26 5).trans ((hoff22 5 rfl).trans (hF18 5))))) ?_
          refine RL.val rfl rfl (by decide) (r_move_as (v := (.int .i64 (((i : Nat) : Int)))) ((hoff30 6 rfl).trans ((hF26 6).trans hs23))) ?_
          refine RL.val rfl rfl (by decide) (r_move_as (v := vy) ((hoff30 1 rfl).trans ((hF26 1).trans ((hoff22 1 rfl).trans ((hF18 1).trans (hF0 1)))))) ?_
          refine RL.val rfl rfl (by decide) (r_len Try.underlying38 hv8) ?_
          refine RL.val rfl rfl (by decide) (r_add (k := .i64) (a := ((i : Nat) : Int)) (b := ((y.length : Nat) : Int)) (c := ((i : Nat) : Int) + ((y.length : Nat) : Int)) rfl rfl (wi64 (by omega))) ?_
          refine RL.val rfl rfl (by decide) (r_move_as (v := (.int .u64 (((c : Nat) : Int)))) hs32) ?_
          refine RL.val rfl rfl (by decide) (r_conv (k := .u32) (a := ((c : Nat) : Int)) (c := ((c % 4294967296 : Nat) : Int)) Try.underlying33 Try.underlying52 rfl (cu32 _)) ?_
          refine RL.val rfl rfl (by decide) (r_indexAddr (i := ((i : Nat) : Int) + ((y.length : Nat) : Int)) Try.underlying38 ty52 rfl rfl (by omega) (by omega)) ?_
          refine RL.runs rfl rfl (h_set (g := (gN .u32)) (vv := (.int .u32 (((c % 4294967296 : Nat) : Int)))) (u := c) (i := ((i : Nat) : Int) + ((y.length : Nat) : Int)) ty52 rfl rfl (int_eq (by omega)) rfl rfl hb14 (i + y.length) (by omega) (by omega)) ?_
          rintro w50 ⟨ha51, hx52⟩
          have hx52z := hx52.size
          replace hx := hx.tr (hb14.sm hx52 (by (intro h; have := h.2; omega)))
          replace hy := hy.tr (hb14.sm hx52 (by (intro h; have := h.2; omega)))
          replace hE := Below.exc hE (by omega) hx52 (by omega)
          replace hb14 := ha51
          refine RL.nil ?_
          refine wregion ?_
          refine RL.val rfl rfl (by decide) (r_move_as (v := (.int .i64 (((i : Nat) : Int)))) ((hoff30 6 rfl).trans ((hF26 6).trans hs23))) ?_
          refine RL.val rfl rfl (by decide) (r_add (k := .i64) (a := ((i : Nat) : Int)) (b := 1) (c := ((i : Nat) : Int) + 1) rfl rfl (wi64 (by omega))) ?_
          refine RL.val rfl rfl (by decide) (r_assign_as (v := (.int .i64 (((i : Nat) : Int) + 1))) rfl) ?_
          refine RL.nil ?_
          refine ⟨(i + 1, rowN O (Q ++ [c]) i), ⟨?_, ?_, ?_, ?_, ?_, ?_, ?_, ?_, ?_, ?_, ?_, ?_⟩, ?_⟩
          · exact (by repeat (first | exact hoff22 | refine Off.st ?_ (by decide) _ | refine Off.via hoff30 (by decide) ?_ | refine Off.eq hF26 ?_))
          · first | rfl | exact int_eq (by omega) | exact bool_eq (by simp)
          · omega
          · rw [length_rowN (by simp; omega)]; exact hOl
          · exact rowN_lm hOm (hQm.snoc (by omega))
          · exact rowN_zeros (by simp; omega) (by omega) hz
          · exact mul_row (n := 0) (by omega) (by omega) hOl hv hQe
          · exact hx
          · exact hy
          · rw [rowN_set (k := y.length) (by omega) (by omega)] at hb14; exact hb14
          · exact hE
          · omega
          · (try dsimp only)
            omega
    · have hb24p := hb24
      replace hb24p := of_decide_eq_false hb24p
      refine wexit ?_
      refine wseq ?_
      have hix : i = x.length := by omega
      have hfin : val O = val x * val y := by rw [hix, List.take_of_length_le (by omega), List.take_of_length_le (Nat.le_refl _)] at hv; exact hv
      refine wregion ?_
      refine RL.val rfl rfl (by decide) (r_move_as (v := (.slice (some ⟨b12, 0, none⟩) (x.length + y.length) (x.length + y.length))) ((hoff22 5 rfl).trans (hF18 5))) ?_
      refine RL.call rfl rfl (by decide) (r_call (vl := [(.slice (some ⟨b12, 0, none⟩) (x.length + y.length) (x.length + y.length))]) ent58 rfl) (r01_trim (hb14.sc (D := fun _ _ => True) (Nat.le_refl _) (by omega) trivial) (by assumption) (by first | omega | simp)) ?_
      rintro vr55 w53 ⟨hr56, he54⟩
      have he54z := he54.size
      replace hx := hx.tr (Sm.ext he54)
      replace hy := hy.tr (Sm.ext he54)
      replace hE := Below.ext hE (by omega) he54
      replace hb14 := hb14.ext he54
      have hlt57 : (digs (val O)).length ≤ O.length := len_le_of (by assumption)
      refine RL.val rfl rfl (by decide) (r_assign_as (v := vr55) rfl) ?_
      refine RL.nil ?_
      refine wret ?_
      refine ⟨[vr55], ⟨rfl, trivial⟩, ?_⟩
      have hres := hr56
      rw [hfin] at hres
      exact ⟨hres.mono (fun b T h => by first | exact ⟨by have := h.1; omega, h.2⟩ | exact ⟨by have := h.1; omega, h.2.1⟩ | exact ⟨by have := h.1; omega, h.2, by have := h.1; omega⟩ | exact ⟨by have := h.1; omega, h.2.1, by have := h.1; omega⟩ | exact ⟨by have := h.1; omega, h.2.1, h.2.2⟩), hE⟩

end Go.Proofs.Ytppgppnkhpjlpaa
