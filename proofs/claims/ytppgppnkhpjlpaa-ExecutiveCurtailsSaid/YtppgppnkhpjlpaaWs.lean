/- Walks, printed by program. -/
import Derived.Test.YtppgppnkhpjlpaaWa
import Derived.Test.YtppgppnkhpjlpaaMsort
namespace Go.Proofs.Ytppgppnkhpjlpaa
open Go.Vg Go.RowKit
set_option linter.unusedVariables false

open Go.Vm
set_option maxHeartbeats 1000000 in
theorem swapRange_int {b o n cap : Nat} {xs : List Int} {w : World} {a c k : Nat} {fv : Value} (ha : Ar (gI .i64) w b 3 o xs n) (hsz : n ≤ 4611686018427387903) (h1 : a + k ≤ c) (h2 : c + k ≤ n) :
    Calls Try.prog 59 #[(.slice (some ⟨b, o, none⟩) (n) (cap)), (.int .i64 (((a : Nat) : Int))), (.int .i64 (((c : Nat) : Int))), (.int .i64 (((k : Nat) : Int))), fv] w fun e w' => ∃ v, e = .returned v ∧ v = .tuple #[] ∧ Ar (gI .i64) w' b 3 o (swpR xs a c k) n ∧ Exc b w w' := by
  have hE : Exc b w w := Exc.of_ext (Ext.refl _)
  refine calls_of (n := 38) (rs := []) Try.func59 rfl rfl rfl (Nat.le_of_ble_eq_true rfl) ?_
  refine wset fun F0 hF0 => ?_
  refine wseq ?_
  refine wregion ?_
  refine RL.val rfl rfl (by decide) (r_assign_as (v := (.int .i64 (0))) rfl) ?_
  refine RL.nil ?_
  refine wblock ?_
  refine wset fun F1 hF2 => ?_
  refine wloop (σ := Nat) (fun (i : Nat) fl wl => Off [10, 11, 12, 13, 14, 15, 16, 17, 18, 19, 20, 21, 22, 23, 24, 25, 26, 27, 28, 29, 30, 31, 32, 33, 34, 35, 36, 37] F1 fl ∧ fl 10 = (.int .i64 (((i : Nat) : Int))) ∧ (i ≤ k) ∧ (Ar (gI .i64) wl b 3 o (swpR xs a c i) n) ∧ (Exc b w wl)) (fun (i : Nat) => k - i) (0) ?_ ?_
  · exact ⟨Off.refl _ _, (hF2 10).trans (rfl), Nat.zero_le _, ha, hE⟩
  · clear ha hE
    rintro i f3 w4 ⟨hoff5, hs6, hik, ha, hE⟩
    refine wseq ?_
    refine wseq ?_
    refine wregion ?_
    refine RL.val rfl rfl (by decide) (r_move_as (v := (.int .i64 (((i : Nat) : Int)))) hs6) ?_
    refine RL.val rfl rfl (by decide) (r_move_as (v := (.int .i64 (((k : Nat) : Int)))) ((hoff5 3 rfl).trans ((hF2 3).trans (hF0 3)))) ?_
    refine RL.val rfl rfl (by decide) (r_lss (k := .i64) (a := ((i : Nat) : Int)) (b := ((k : Nat) : Int)) rfl rfl) ?_
    refine RL.nil ?_
    refine wcond (b := decide (((i : Nat) : Int) < ((k : Nat) : Int))) rfl (fun hb7 => ?_) (fun hb7 => ?_)
    · have hb7p := hb7
      replace hb7p := of_decide_eq_true hb7p
      refine wskip ?_
      refine wseq ?_
      refine wblock ?_
      refine wdraw mixed fun w8 he9 => ?_
      have he9z := he9.size
      replace ha := ha.ext he9
      replace hE := hE.trans (Exc.of_ext he9)
      refine RA.take 0 rfl (by kernel_rfl) rfl rfl (by decide) (fun _ => r_move_as (v := (.slice (some ⟨b, o, none⟩) (n) (cap))) ((hoff5 0 rfl).trans ((hF2 0).trans (hF0 0)))) ?_
      refine RA.take 1 rfl (by kernel_rfl) rfl rfl (by decide) (fun _ => r_move_as (v := (.int .i64 (((a : Nat) : Int)))) ((hoff5 1 rfl).trans ((hF2 1).trans (hF0 1)))) ?_
      refine RA.take 2 rfl (by kernel_rfl) rfl rfl (by decide) (fun _ => r_move_as (v := (.int .i64 (((i : Nat) : Int)))) hs6) ?_
      refine RA.take 3 rfl (by kernel_rfl) rfl rfl (by decide) (fun _ => r_add (k := .i64) (a := ((a : Nat) : Int)) (b := ((i : Nat) : Int)) (c := ((a + i : Nat) : Int)) rfl rfl ((wi64 (by omega)).trans (by omega))) ?_
      refine RA.take 4 rfl (by kernel_rfl) rfl rfl (by decide) (fun _ => r_move_as (v := (.slice (some ⟨b, o, none⟩) (n) (cap))) ((hoff5 0 rfl).trans ((hF2 0).trans (hF0 0)))) ?_
      refine RA.take 5 rfl (by kernel_rfl) rfl rfl (by decide) (fun _ => r_move_as (v := (.int .i64 (((c : Nat) : Int)))) ((hoff5 2 rfl).trans ((hF2 2).trans (hF0 2)))) ?_
      refine RA.take 6 rfl (by kernel_rfl) rfl rfl (by decide) (fun _ => r_move_as (v := (.int .i64 (((i : Nat) : Int)))) hs6) ?_
      refine RA.take 7 rfl (by kernel_rfl) rfl rfl (by decide) (fun _ => r_add (k := .i64) (a := ((c : Nat) : Int)) (b := ((i : Nat) : Int)) (c := ((c + i : Nat) : Int)) rfl rfl ((wi64 (by omega)).trans (by omega))) ?_
      refine RA.take 8 rfl (by kernel_rfl) rfl rfl (by decide) (fun _ => r_move_as (v := (.slice (some ⟨b, o, none⟩) (n) (cap))) ((hoff5 0 rfl).trans ((hF2 0).trans (hF0 0)))) ?_
      refine RA.take 9 rfl (by kernel_rfl) rfl rfl (by decide) (fun _ => r_move_as (v := (.int .i64 (((c : Nat) : Int)))) ((hoff5 2 rfl).trans ((hF2 2).trans (hF0 2)))) ?_
      refine RA.take 10 rfl (by kernel_rfl) rfl rfl (by decide) (fun _ => r_move_as (v := (.int .i64 (((i : Nat) : Int)))) hs6) ?_
      refine RA.take 11 rfl (by kernel_rfl) rfl rfl (by decide) (fun _ => r_add (k := .i64) (a := ((c : Nat) : Int)) (b := ((i : Nat) : Int)) (c := ((c + i : Nat) : Int)) rfl rfl ((wi64 (by omega)).trans (by omega))) ?_
      refine RA.take 12 rfl (by kernel_rfl) rfl rfl (by decide) (fun _ => r_indexAddr (i := ((c + i : Nat) : Int)) Try.underlying26 ty3 rfl rfl (by omega) (by omega)) ?_
      have hc10 := ha.cell (i := ((c + i : Nat) : Int)) (c + i) (by omega) (by omega)
      refine RA.rd 13 rfl (by kernel_rfl) rfl rfl rfl (by decide) (Ext.refl _) (fun u hu => r_load (v := (.int .i64 ((swpR xs a c i).getD (c + i) default))) Try.underlying3 ag3 rfl (cell_ext hu hc10)) ?_
      refine RA.take 14 rfl (by kernel_rfl) rfl rfl (by decide) (fun _ => r_move_as (v := (.slice (some ⟨b, o, none⟩) (n) (cap))) ((hoff5 0 rfl).trans ((hF2 0).trans (hF0 0)))) ?_
      refine RA.take 15 rfl (by kernel_rfl) rfl rfl (by decide) (fun _ => r_move_as (v := (.int .i64 (((a : Nat) : Int)))) ((hoff5 1 rfl).trans ((hF2 1).trans (hF0 1)))) ?_
      refine RA.take 16 rfl (by kernel_rfl) rfl rfl (by decide) (fun _ => r_move_as (v := (.int .i64 (((i : Nat) : Int)))) hs6) ?_
      refine RA.take 17 rfl (by kernel_rfl) rfl rfl (by decide) (fun _ => r_add (k := .i64) (a := ((a : Nat) : Int)) (b := ((i : Nat) : Int)) (c := ((a + i : Nat) : Int)) rfl rfl ((wi64 (by omega)).trans (by omega))) ?_
      refine RA.take 18 rfl (by kernel_rfl) rfl rfl (by decide) (fun _ => r_indexAddr (i := ((a + i : Nat) : Int)) Try.underlying26 ty3 rfl rfl (by omega) (by omega)) ?_
      have hc11 := ha.cell (i := ((a + i : Nat) : Int)) (a + i) (by omega) (by omega)
      refine RA.rd 19 rfl (by kernel_rfl) rfl rfl rfl (by decide) (Ext.refl _) (fun u hu => r_load (v := (.int .i64 ((swpR xs a c i).getD (a + i) default))) Try.underlying3 ag3 rfl (cell_ext hu hc11)) ?_
      refine RA.take 20 rfl (by kernel_rfl) rfl rfl (by decide) (fun _ => r_indexAddr (i := ((a + i : Nat) : Int)) Try.underlying26 ty3 rfl rfl (by omega) (by omega)) ?_
      refine RA.all [21] (by kernel_rfl) rfl ?_
      refine RS.runs rfl rfl rfl (h_set (g := (gI .i64)) (vv := (.int .i64 ((swpR xs a c i).getD (c + i) default))) (u := (swpR xs a c i).getD (c + i) default) (i := ((a + i : Nat) : Int)) ty3 rfl rfl rfl rfl rfl ha (a + i) (by omega) (by omega)) ?_ RS.nil
      rintro w12 ⟨ha13, hx14⟩
      refine ⟨.inr (.inl (by kernel_rfl)), ?_⟩
      have hx14z := hx14.size
      replace hE := hE.trans hx14
      replace ha := ha13
      refine RA.take 22 rfl (by kernel_rfl) rfl rfl (by decide) (fun _ => r_indexAddr (i := ((c + i : Nat) : Int)) Try.underlying26 ty3 rfl rfl (by omega) (by omega)) ?_
      refine RA.all [23] (by kernel_rfl) rfl ?_
      refine RS.runs rfl rfl rfl (h_set (g := (gI .i64)) (vv := (.int .i64 ((swpR xs a c i).getD (a + i) default))) (u := (swpR xs a c i).getD (a + i) default) (i := ((c + i : Nat) : Int)) ty3 rfl rfl rfl rfl rfl ha (c + i) (by omega) (by omega)) ?_ RS.nil
      rintro w15 ⟨ha16, hx17⟩
      refine ⟨.inr (.inl (by kernel_rfl)), ?_⟩
      have hx17z := hx17.size
      replace hE := hE.trans hx17
      replace ha := ha16
      refine RA.done (by kernel_rfl) ?_
      refine wregion ?_
      refine RL.val rfl rfl (by decide) (r_move_as (v := (.int .i64 (((i : Nat) : Int)))) hs6) ?_
      refine RL.val rfl rfl (by decide) (r_add (k := .i64) (a := ((i : Nat) : Int)) (b := 1) (c := ((i : Nat) : Int) + 1) rfl rfl (wi64 (by omega))) ?_
      refine RL.val rfl rfl (by decide) (r_assign_as (v := (.int .i64 (((i : Nat) : Int) + 1))) rfl) ?_
      refine RL.nil ?_
      refine ⟨(i + 1), ⟨?_, ?_, ?_, ?_, ?_⟩, ?_⟩
      · exact (by repeat (first | exact hoff5 | refine Off.st ?_ (by decide) _))
      · first | rfl | exact int_eq (by omega) | exact bool_eq (by simp)
      · omega
      · exact ha
      · exact hE
      · (try dsimp only)
        omega
    · have hb7p := hb7
      replace hb7p := of_decide_eq_false hb7p
      refine wexit ?_
      refine ⟨[], trivial, ?_⟩
      have hik2 : i = k := by omega
      subst hik2
      exact ⟨rfl, ha, hE⟩

set_option maxHeartbeats 1000000 in
theorem rotate_int {b o n cap : Nat} {xs : List Int} {w : World} {a m c : Nat} {LA LU LV LB : List Int} {fv : Value} (ha : Ar (gI .i64) w b 3 o xs n) (hsz : n ≤ 4611686018427387903) (hxs : xs = LA ++ LU ++ LV ++ LB) (h1 : LA.length = a) (h2 : a + LU.length = m) (h3 : m + LV.length = c) (h4 : 0 < LU.length) (h5 : 0 < LV.length) :
    Calls Try.prog 51 #[(.slice (some ⟨b, o, none⟩) (n) (cap)), (.int .i64 (((a : Nat) : Int))), (.int .i64 (((m : Nat) : Int))), (.int .i64 (((c : Nat) : Int))), fv] w fun e w' => ∃ v, e = .returned v ∧ v = .tuple #[] ∧ Ar (gI .i64) w' b 3 o (LA ++ LV ++ LU ++ LB) n ∧ Exc b w w' := by
  have hE : Exc b w w := Exc.of_ext (Ext.refl _)
  have hn : LA.length + LU.length + LV.length + LB.length = n := by have := ha.2; rw [hxs] at this; simp at this; omega
  refine calls_of (n := 58) (rs := []) Try.func51 rfl rfl rfl (Nat.le_of_ble_eq_true rfl) ?_
  refine wset fun F0 hF0 => ?_
  refine wseq ?_
  refine wregion ?_
  refine RL.val rfl rfl (by decide) (r_move_as (v := (.int .i64 (((m : Nat) : Int)))) (hF0 2)) ?_
  refine RL.val rfl rfl (by decide) (r_move_as (v := (.int .i64 (((a : Nat) : Int)))) (hF0 1)) ?_
  refine RL.val rfl rfl (by decide) (r_sub (k := .i64) (a := ((m : Nat) : Int)) (b := ((a : Nat) : Int)) (c := ((m : Nat) : Int) - ((a : Nat) : Int)) rfl rfl (wi64 (by omega))) ?_
  refine RL.val rfl rfl (by decide) (r_assign_as (v := (.int .i64 (((m : Nat) : Int) - ((a : Nat) : Int)))) rfl) ?_
  refine RL.nil ?_
  refine wseq ?_
  refine wregion ?_
  refine RL.val rfl rfl (by decide) (r_move_as (v := (.int .i64 (((c : Nat) : Int)))) (hF0 3)) ?_
  refine RL.val rfl rfl (by decide) (r_move_as (v := (.int .i64 (((m : Nat) : Int)))) (hF0 2)) ?_
  refine RL.val rfl rfl (by decide) (r_sub (k := .i64) (a := ((c : Nat) : Int)) (b := ((m : Nat) : Int)) (c := ((c : Nat) : Int) - ((m : Nat) : Int)) rfl rfl (wi64 (by omega))) ?_
  refine RL.val rfl rfl (by decide) (r_assign_as (v := (.int .i64 (((c : Nat) : Int) - ((m : Nat) : Int)))) rfl) ?_
  refine RL.nil ?_
  refine wseq ?_
  refine wblock ?_
  refine wset fun F1 hF2 => ?_
  refine wloop (σ := List Int × List Int × List Int × List Int) (fun (s : List Int × List Int × List Int × List Int) fl wl => match s with | (X, Y, PP, SS) => Off [10, 11, 18, 19, 20, 21, 22, 23, 24, 25, 26, 27, 28, 29, 30, 31, 32, 33, 34, 35, 36, 37, 38, 39, 40, 41, 42, 43, 44, 45, 46, 47, 48, 49] F1 fl ∧ fl 10 = (.int .i64 (((X.length : Nat) : Int))) ∧ fl 11 = (.int .i64 (((Y.length : Nat) : Int))) ∧ (PP ++ Y ++ X ++ SS = LV ++ LU) ∧ (LA.length + PP.length + X.length = m) ∧ (0 < X.length) ∧ (0 < Y.length) ∧ (PP.length + X.length + Y.length + SS.length = LU.length + LV.length) ∧ (Ar (gI .i64) wl b 3 o (LA ++ PP ++ X ++ Y ++ SS ++ LB) n) ∧ (Exc b w wl)) (fun (s : List Int × List Int × List Int × List Int) => match s with | (X, Y, PP, SS) => X.length + Y.length) (LU, LV, [], []) ?_ ?_
  · exact ⟨Off.refl _ _, (hF2 10).trans ((int_eq (by omega))), (hF2 11).trans ((int_eq (by omega))), by simp, by simp; omega, h4, h5, by simp, (by rw [hxs] at ha; simpa using ha), hE⟩
  · clear ha hE
    rintro ⟨X, Y, PP, SS⟩ f3 w4 ⟨hoff5, hs6, hs7, hT, hm, hx0, hy0, hY, ha, hE⟩
    refine wseq ?_
    refine wseq ?_
    refine wregion ?_
    refine RL.val rfl rfl (by decide) (r_move_as (v := (.int .i64 (((X.length : Nat) : Int)))) hs6) ?_
    refine RL.val rfl rfl (by decide) (r_move_as (v := (.int .i64 (((Y.length : Nat) : Int)))) hs7) ?_
    refine RL.val rfl rfl (by decide) (r_neq (k := .i64) (a := ((X.length : Nat) : Int)) (b := ((Y.length : Nat) : Int)) rfl rfl) ?_
    refine RL.nil ?_
    refine wcond (b := decide (((X.length : Nat) : Int) ≠ ((Y.length : Nat) : Int))) rfl (fun hb8 => ?_) (fun hb8 => ?_)
    · have hb8p := hb8
      replace hb8p := of_decide_eq_true hb8p
      refine wskip ?_
      refine wblock ?_
      refine wseq ?_
      refine wregion ?_
      refine RL.val rfl rfl (by decide) (r_move_as (v := (.int .i64 (((X.length : Nat) : Int)))) hs6) ?_
      refine RL.val rfl rfl (by decide) (r_move_as (v := (.int .i64 (((Y.length : Nat) : Int)))) hs7) ?_
      refine RL.val rfl rfl (by decide) (r_gtr (k := .i64) (a := ((X.length : Nat) : Int)) (b := ((Y.length : Nat) : Int)) rfl rfl) ?_
      refine RL.nil ?_
      refine wcond (b := decide (((Y.length : Nat) : Int) < ((X.length : Nat) : Int))) rfl (fun hb9 => ?_) (fun hb9 => ?_)
      · have hb9p := hb9
        replace hb9p := of_decide_eq_true hb9p
        refine wseq ?_
        refine wregion ?_
        refine RL.val rfl rfl (by decide) (r_move_as (v := (.slice (some ⟨b, o, none⟩) (n) (cap))) ((hoff5 0 rfl).trans ((hF2 0).trans (hF0 0)))) ?_
        refine RL.val rfl rfl (by decide) (r_move_as (v := (.int .i64 (((m : Nat) : Int)))) ((hoff5 2 rfl).trans ((hF2 2).trans (hF0 2)))) ?_
        refine RL.val rfl rfl (by decide) (r_move_as (v := (.int .i64 (((X.length : Nat) : Int)))) hs6) ?_
        refine RL.val rfl rfl (by decide) (r_sub (k := .i64) (a := ((m : Nat) : Int)) (b := ((X.length : Nat) : Int)) (c := ((LA.length + PP.length : Nat) : Int)) rfl rfl ((wi64 (by omega)).trans (by omega))) ?_
        refine RL.val rfl rfl (by decide) (r_move_as (v := (.int .i64 (((LA.length + PP.length + X.length : Nat) : Int)))) (((hoff5 2 rfl).trans ((hF2 2).trans (hF0 2))).trans (int_eq (by omega)))) ?_
        refine RL.val rfl rfl (by decide) (r_move_as (v := (.int .i64 (((Y.length : Nat) : Int)))) hs7) ?_
        refine RL.val rfl rfl (by decide) (r_move_as (v := fv) ((hoff5 4 rfl).trans ((hF2 4).trans (hF0 4)))) ?_
        refine RL.call rfl rfl (by decide) (r_call (vl := [(.slice (some ⟨b, o, none⟩) (n) (cap)), (.int .i64 (((LA.length + PP.length : Nat) : Int))), (.int .i64 (((LA.length + PP.length + X.length : Nat) : Int))), (.int .i64 (((Y.length : Nat) : Int))), fv]) ent59 rfl) (swapRange_int (a := LA.length + PP.length) (c := LA.length + PP.length + X.length) (k := Y.length) ha hsz (by omega) (by omega)) ?_
        rintro _ w10 ⟨rfl, ha11, hx12⟩
        replace hE := hE.trans hx12
        replace ha := ha11
        refine RL.nil ?_
        refine wregion ?_
        refine RL.val rfl rfl (by decide) (r_move_as (v := (.int .i64 (((X.length : Nat) : Int)))) hs6) ?_
        refine RL.val rfl rfl (by decide) (r_move_as (v := (.int .i64 (((Y.length : Nat) : Int)))) hs7) ?_
        refine RL.val rfl rfl (by decide) (r_sub (k := .i64) (a := ((X.length : Nat) : Int)) (b := ((Y.length : Nat) : Int)) (c := ((X.length : Nat) : Int) - ((Y.length : Nat) : Int)) rfl rfl (wi64 (by omega))) ?_
        refine RL.val rfl rfl (by decide) (r_assign_as (v := (.int .i64 (((X.length : Nat) : Int) - ((Y.length : Nat) : Int)))) rfl) ?_
        refine RL.nil ?_
        refine ⟨(X.drop Y.length, X.take Y.length, PP ++ Y, SS), ⟨?_, ?_, ?_, ?_, ?_, ?_, ?_, ?_, ?_, ?_⟩, ?_⟩
        · exact (by repeat (first | exact hoff5 | refine Off.st ?_ (by decide) _))
        · exact int_eq (by simp; omega)
        · refine (hs7).trans ?_
          exact int_eq (by simp; omega)
        · rw [← hT]; simp [List.append_assoc]
        · simp; omega
        · simp; omega
        · simp; omega
        · simp; omega
        · rw [rot_gt _ _ _ _ _ _ _ _ _ (by omega) (by omega) rfl (by omega)] at ha; exact ha
        · exact hE
        · show _ < _
          simp; omega
      · have hb9p := hb9
        replace hb9p := of_decide_eq_false hb9p
        refine wseq ?_
        refine wregion ?_
        refine RL.val rfl rfl (by decide) (r_move_as (v := (.slice (some ⟨b, o, none⟩) (n) (cap))) ((hoff5 0 rfl).trans ((hF2 0).trans (hF0 0)))) ?_
        refine RL.val rfl rfl (by decide) (r_move_as (v := (.int .i64 (((m : Nat) : Int)))) ((hoff5 2 rfl).trans ((hF2 2).trans (hF0 2)))) ?_
        refine RL.val rfl rfl (by decide) (r_move_as (v := (.int .i64 (((X.length : Nat) : Int)))) hs6) ?_
        refine RL.val rfl rfl (by decide) (r_sub (k := .i64) (a := ((m : Nat) : Int)) (b := ((X.length : Nat) : Int)) (c := ((LA.length + PP.length : Nat) : Int)) rfl rfl ((wi64 (by omega)).trans (by omega))) ?_
        refine RL.val rfl rfl (by decide) (r_move_as (v := (.int .i64 (((m : Nat) : Int)))) ((hoff5 2 rfl).trans ((hF2 2).trans (hF0 2)))) ?_
        refine RL.val rfl rfl (by decide) (r_move_as (v := (.int .i64 (((Y.length : Nat) : Int)))) hs7) ?_
        refine RL.val rfl rfl (by decide) (r_add (k := .i64) (a := ((m : Nat) : Int)) (b := ((Y.length : Nat) : Int)) (c := ((m : Nat) : Int) + ((Y.length : Nat) : Int)) rfl rfl (wi64 (by omega))) ?_
        refine RL.val rfl rfl (by decide) (r_move_as (v := (.int .i64 (((X.length : Nat) : Int)))) hs6) ?_
        refine RL.val rfl rfl (by decide) (r_sub (k := .i64) (a := ((m : Nat) : Int) + ((Y.length : Nat) : Int)) (b := ((X.length : Nat) : Int)) (c := ((LA.length + PP.length + Y.length : Nat) : Int)) rfl rfl ((wi64 (by omega)).trans (by omega))) ?_
        refine RL.val rfl rfl (by decide) (r_move_as (v := (.int .i64 (((X.length : Nat) : Int)))) hs6) ?_
        refine RL.val rfl rfl (by decide) (r_move_as (v := fv) ((hoff5 4 rfl).trans ((hF2 4).trans (hF0 4)))) ?_
        refine RL.call rfl rfl (by decide) (r_call (vl := [(.slice (some ⟨b, o, none⟩) (n) (cap)), (.int .i64 (((LA.length + PP.length : Nat) : Int))), (.int .i64 (((LA.length + PP.length + Y.length : Nat) : Int))), (.int .i64 (((X.length : Nat) : Int))), fv]) ent59 rfl) (swapRange_int (a := LA.length + PP.length) (c := LA.length + PP.length + Y.length) (k := X.length) ha hsz (by omega) (by omega)) ?_
        rintro _ w13 ⟨rfl, ha14, hx15⟩
        replace hE := hE.trans hx15
        replace ha := ha14
        refine RL.nil ?_
        refine wregion ?_
        refine RL.val rfl rfl (by decide) (r_move_as (v := (.int .i64 (((Y.length : Nat) : Int)))) hs7) ?_
        refine RL.val rfl rfl (by decide) (r_move_as (v := (.int .i64 (((X.length : Nat) : Int)))) hs6) ?_
        refine RL.val rfl rfl (by decide) (r_sub (k := .i64) (a := ((Y.length : Nat) : Int)) (b := ((X.length : Nat) : Int)) (c := ((Y.length : Nat) : Int) - ((X.length : Nat) : Int)) rfl rfl (wi64 (by omega))) ?_
        refine RL.val rfl rfl (by decide) (r_assign_as (v := (.int .i64 (((Y.length : Nat) : Int) - ((X.length : Nat) : Int)))) rfl) ?_
        refine RL.nil ?_
        refine ⟨(Y.drop (Y.length - X.length), Y.take (Y.length - X.length), PP, X ++ SS), ⟨?_, ?_, ?_, ?_, ?_, ?_, ?_, ?_, ?_, ?_⟩, ?_⟩
        · exact (by repeat (first | exact hoff5 | refine Off.st ?_ (by decide) _))
        · refine (hs6).trans ?_
          exact int_eq (by simp; omega)
        · exact int_eq (by simp; omega)
        · rw [← hT]; simp [List.append_assoc]
        · simp; omega
        · simp; omega
        · simp; omega
        · simp; omega
        · rw [rot_lt _ _ _ _ _ _ _ _ _ (by omega) (by omega) rfl (by omega)] at ha; exact ha
        · exact hE
        · show _ < _
          simp; omega
    · have hb8p := hb8
      replace hb8p := of_decide_eq_false hb8p
      refine wexit ?_
      refine wregion ?_
      refine RL.val rfl rfl (by decide) (r_move_as (v := (.slice (some ⟨b, o, none⟩) (n) (cap))) ((hoff5 0 rfl).trans ((hF2 0).trans (hF0 0)))) ?_
      refine RL.val rfl rfl (by decide) (r_move_as (v := (.int .i64 (((m : Nat) : Int)))) ((hoff5 2 rfl).trans ((hF2 2).trans (hF0 2)))) ?_
      refine RL.val rfl rfl (by decide) (r_move_as (v := (.int .i64 (((X.length : Nat) : Int)))) hs6) ?_
      refine RL.val rfl rfl (by decide) (r_sub (k := .i64) (a := ((m : Nat) : Int)) (b := ((X.length : Nat) : Int)) (c := ((LA.length + PP.length : Nat) : Int)) rfl rfl ((wi64 (by omega)).trans (by omega))) ?_
      refine RL.val rfl rfl (by decide) (r_move_as (v := (.int .i64 (((LA.length + PP.length + X.length : Nat) : Int)))) (((hoff5 2 rfl).trans ((hF2 2).trans (hF0 2))).trans (int_eq (by omega)))) ?_
      refine RL.val rfl rfl (by decide) (r_move_as (v := (.int .i64 (((X.length : Nat) : Int)))) hs6) ?_
      refine RL.val rfl rfl (by decide) (r_move_as (v := fv) ((hoff5 4 rfl).trans ((hF2 4).trans (hF0 4)))) ?_
      refine RL.call rfl rfl (by decide) (r_call (vl := [(.slice (some ⟨b, o, none⟩) (n) (cap)), (.int .i64 (((LA.length + PP.length : Nat) : Int))), (.int .i64 (((LA.length + PP.length + X.length : Nat) : Int))), (.int .i64 (((X.length : Nat) : Int))), fv]) ent59 rfl) (swapRange_int (a := LA.length + PP.length) (c := LA.length + PP.length + X.length) (k := X.length) ha hsz (by omega) (by omega)) ?_
      rintro _ w16 ⟨rfl, ha17, hx18⟩
      replace hE := hE.trans hx18
      replace ha := ha17
      refine RL.nil ?_
      refine ⟨[], trivial, ?_⟩
      have hxy : X.length = Y.length := by omega
      rw [rot_gt _ _ _ _ _ _ _ _ _ (by omega) (by omega) hxy (by omega)] at ha
      rw [List.drop_of_length_le (by omega), List.take_of_length_le (by omega)] at ha
      have e : LA ++ (PP ++ Y) ++ [] ++ X ++ SS ++ LB = LA ++ LV ++ LU ++ LB := by
        have : LA ++ (PP ++ Y) ++ [] ++ X ++ SS ++ LB = LA ++ (PP ++ Y ++ X ++ SS) ++ LB := by simp
        rw [this, hT]; simp
      rw [e] at ha
      exact ⟨rfl, ha, hE⟩

end Go.Proofs.Ytppgppnkhpjlpaa
