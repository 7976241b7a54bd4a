/- Walks, printed by program. -/
import Derived.Test.YtppgppnkhpjlpaaWs
namespace Go.Proofs.Ytppgppnkhpjlpaa
open Go.Vg Go.RowKit
set_option linter.unusedVariables false

open Go.Vm
/-- a comparison by a key that a closure makes, in every world that differs from w0 in block b alone -/
def CmpOk {α : Type} (P : Program) (k : Nat) (cl : List Value) (enc : α → Value) (key : α → Int) (ok : α → Prop) (b : Nat) (w0 : World) : Prop :=
  ∀ w, Exc b w0 w → ∀ x y, ok x → ok y → Calls P k ([enc x, enc y] ++ cl).toArray w fun e w' => ∃ v, e = .returned v ∧ (v = .int .i64 (cmpI (key x) (key y)) ∧ Ext w w')

set_option maxHeartbeats 1000000 in
theorem insertion_int {b o n cap : Nat} {xs : List Int} {w : World} {kc : Nat} {cl : List Value} {key : Int → Int} {ok : Int → Prop} {w0 : World} (hent : Ent Try.prog kc) (hcmp : CmpOk Try.prog kc cl (gI .i64) key ok b w0) (hw0 : Exc b w0 w) {a c : Nat} {LA LS LB : List Int} (ha : Ar (gI .i64) w b 3 o xs n) (hsz : n ≤ 4611686018427387903) (hxs : xs = LA ++ LS ++ LB) (h1 : LA.length = a) (h2 : a + LS.length = c) (hok : ∀ x ∈ LS, ok x) :
    Calls Try.prog 34 #[(.slice (some ⟨b, o, none⟩) (n) (cap)), (.int .i64 (((a : Nat) : Int))), (.int .i64 (((c : Nat) : Int))), (.func (.func kc) #[] cl.toArray)] w fun e w' => ∃ v, e = .returned v ∧ v = .tuple #[] ∧ (∃ l, Ar (gI .i64) w' b 3 o (LA ++ l ++ LB) n ∧ Srt key l ∧ StE key LS l) ∧ Exc b w w' := by
  have hE : Exc b w w := Exc.of_ext (Ext.refl _)
  have hn : LA.length + LS.length + LB.length = n := by have := ha.2; rw [hxs] at this; simp at this; omega
  refine calls_of (n := 53) (rs := []) Try.func34 rfl rfl rfl (Nat.le_of_ble_eq_true rfl) ?_
  refine wset fun F0 hF0 => ?_
  refine wseq ?_
  refine wregion ?_
  refine RL.val rfl rfl (by decide) (r_move_as (v := (.int .i64 (((a : Nat) : Int)))) (hF0 1)) ?_
  refine RL.val rfl rfl (by decide) (r_add (k := .i64) (a := ((a : Nat) : Int)) (b := 1) (c := ((a + 1 : Nat) : Int)) rfl rfl ((wi64 (by omega)).trans (by omega))) ?_
  refine RL.val rfl rfl (by decide) (r_assign_as (v := (.int .i64 (((a + 1 : Nat) : Int)))) rfl) ?_
  refine RL.nil ?_
  refine wblock ?_
  refine wset fun F1 hF2 => ?_
  refine wloop (σ := Nat × List Int) (fun (s : Nat × List Int) fl wl => match s with | (k, S) => Off [8, 9, 12, 13, 14, 15, 16, 17, 18, 19, 20, 21, 22, 23, 24, 25, 26, 27, 28, 29, 30, 31, 32, 33, 34, 35, 36, 37, 38, 39, 40, 41, 42, 43, 44, 45, 46, 47, 48, 49, 50, 51, 52] F1 fl ∧ fl 8 = (.int .i64 (((a + k : Nat) : Int))) ∧ (1 ≤ k) ∧ (k ≤ max 1 LS.length) ∧ (S.length = min k LS.length) ∧ (Srt key S) ∧ (StE key (LS.take k) S) ∧ (Ar (gI .i64) wl b 3 o (LA ++ S ++ LS.drop k ++ LB) n) ∧ (Exc b w wl)) (fun (s : Nat × List Int) => match s with | (k, S) => LS.length - k) (1, LS.take 1) ?_ ?_
  · exact ⟨Off.refl _ _, (hF2 8).trans (rfl), Nat.le_refl _, Nat.le_max_left _ _, by simp, (by match LS with | [] => exact Srt.nil _ | x :: t => exact Srt.one _ x), StE.refl _ _, (by rw [hxs] at ha; rw [List.append_assoc LA, List.take_append_drop]; exact ha), hE⟩
  · clear ha hE
    rintro ⟨k, S⟩ f3 w4 ⟨hoff5, hs6, hk1, hk2, hSl, hSrt, hSt, ha, hE⟩
    refine wseq ?_
    refine wseq ?_
    refine wregion ?_
    refine RL.val rfl rfl (by decide) (r_move_as (v := (.int .i64 (((a + k : Nat) : Int)))) hs6) ?_
    refine RL.val rfl rfl (by decide) (r_move_as (v := (.int .i64 (((c : Nat) : Int)))) ((hoff5 2 rfl).trans ((hF2 2).trans (hF0 2)))) ?_
    refine RL.val rfl rfl (by decide) (r_lss (k := .i64) (a := ((a + k : Nat) : Int)) (b := ((c : Nat) : Int)) rfl rfl) ?_
    refine RL.nil ?_
    refine wcond (b := decide (((a + k : Nat) : Int) < ((c : Nat) : Int))) rfl (fun hb7 => ?_) (fun hb7 => ?_)
    · have hb7p := hb7
      replace hb7p := of_decide_eq_true hb7p
      refine wskip ?_
      refine wseq ?_
      refine wblock ?_
      refine wseq ?_
      have hkl : k < LS.length := by omega
      obtain ⟨x, hx⟩ : ∃ x, x = LS.getD k default := ⟨_, rfl⟩
      have hxin : x ∈ LS := by rw [hx]; simp [hkl]
      have hSk : S.length = k := by rw [hSl]; omega
      have hSin : ∀ y ∈ S, y ∈ LS := fun y hy => List.mem_of_mem_take (hSt.symm.mem hy)
      refine wregion ?_
      refine RL.val rfl rfl (by decide) (r_move_as (v := (.int .i64 (((a + k : Nat) : Int)))) hs6) ?_
      refine RL.val rfl rfl (by decide) (r_assign_as (v := (.int .i64 (((a + k : Nat) : Int)))) rfl) ?_
      refine RL.nil ?_
      refine wblock ?_
      refine wset fun F8 hF9 => ?_
      refine wloop (σ := List Int × List Int) (fun (s : List Int × List Int) fl wl => match s with | (S1, S2) => Off [9, 18, 19, 20, 21, 22, 23, 24, 25, 26, 27, 28, 29, 30, 31, 32, 33, 34, 35, 36, 37, 38, 39, 40, 41, 42, 43, 44, 45, 46, 47, 48, 49, 50, 51, 52] F8 fl ∧ fl 9 = (.int .i64 (((a + S1.length : Nat) : Int))) ∧ (S = S1 ++ S2) ∧ (∀ y ∈ S2, key x < key y) ∧ (Ar (gI .i64) wl b 3 o (LA ++ S1 ++ x :: S2 ++ LS.drop (k + 1) ++ LB) n) ∧ (Exc b w wl)) (fun (s : List Int × List Int) => match s with | (S1, S2) => S1.length) (S, []) ?_ ?_
      · exact ⟨Off.refl _ _, (hF9 9).trans ((int_eq (by simp [hSl]; omega))), by simp, by simp, (by rw [drop_cons LS k hkl, ← hx] at ha; simpa using ha), hE⟩
      · clear ha hE
        rintro ⟨S1, S2⟩ f10 w11 ⟨hoff12, hs13, hSS, hlt, ha, hE⟩
        have hSSl : S1.length + S2.length = S.length := by rw [hSS]; simp
        refine wseq ?_
        refine wseq ?_
        refine wdraw mixed fun w14 he15 => ?_
        have he15z := he15.size
        replace ha := ha.ext he15
        replace hE := hE.trans (Exc.of_ext he15)
        refine RA.take 0 rfl (by kernel_rfl) rfl rfl (by decide) (fun _ => r_move_as (v := (.int .i64 (((a + S1.length : Nat) : Int)))) hs13) ?_
        refine RA.take 1 rfl (by kernel_rfl) rfl rfl (by decide) (fun _ => r_move_as (v := (.int .i64 (((a : Nat) : Int)))) ((hoff12 1 rfl).trans ((hF9 1).trans ((hoff5 1 rfl).trans ((hF2 1).trans (hF0 1)))))) ?_
        refine RA.take 2 rfl (by kernel_rfl) rfl rfl (by decide) (fun _ => r_gtr (k := .i64) (a := ((a + S1.length : Nat) : Int)) (b := ((a : Nat) : Int)) rfl rfl) ?_
        refine RA.take 3 rfl (by kernel_rfl) rfl rfl (by decide) (fun _ => r_move_as (v := (.bool (decide (((a : Nat) : Int) < ((a + S1.length : Nat) : Int))))) rfl) ?_
        rcases Bool.eq_false_or_eq_true (decide (((a : Nat) : Int) < ((a + S1.length : Nat) : Int))) with hb16 | hb16
        · have hb16p := hb16
          replace hb16p := of_decide_eq_true hb16p
          obtain ⟨S3, y, hS1⟩ := snoc_of S1 (by omega)
          have hS1l : S1.length = S3.length + 1 := by rw [hS1]; simp
          refine RA.gtake 4 rfl (by kernel_rfl) rfl rfl (bool_eq hb16) rfl (by decide) (fun _ => r_move_as (v := (.func (.func kc) #[] cl.toArray)) ((hoff12 3 rfl).trans ((hF9 3).trans ((hoff5 3 rfl).trans ((hF2 3).trans (hF0 3)))))) ?_
          refine RA.gtake 5 rfl (by kernel_rfl) rfl rfl (bool_eq hb16) rfl (by decide) (fun _ => r_move_as (v := (.slice (some ⟨b, o, none⟩) (n) (cap))) ((hoff12 0 rfl).trans ((hF9 0).trans ((hoff5 0 rfl).trans ((hF2 0).trans (hF0 0)))))) ?_
          refine RA.gtake 6 rfl (by kernel_rfl) rfl rfl (bool_eq hb16) rfl (by decide) (fun _ => r_move_as (v := (.int .i64 (((a + S1.length : Nat) : Int)))) hs13) ?_
          refine RA.gtake 7 rfl (by kernel_rfl) rfl rfl (bool_eq hb16) rfl (by decide) (fun _ => r_indexAddr (i := ((a + S1.length : Nat) : Int)) Try.underlying26 ty3 rfl rfl (by omega) (by omega)) ?_
          have hc17 := ha.cell (i := ((a + S1.length : Nat) : Int)) (a + S1.length) (by omega) (by omega)
          rw [show (LA ++ S1 ++ x :: S2 ++ LS.drop (k + 1) ++ LB).getD (a + S1.length) default = x from (by rw [show (LA ++ S1 ++ x :: S2 ++ LS.drop (k + 1) ++ LB) = (LA ++ S1) ++ x :: (S2 ++ LS.drop (k + 1) ++ LB) from by simp]; exact getD_mid _ _ _ _ (by simp [h1]))] at hc17
          refine RA.grd 8 rfl (by kernel_rfl) rfl rfl rfl (bool_eq hb16) rfl (by decide) (Ext.refl _) (fun u hu => r_load (v := (.int .i64 (x))) Try.underlying3 ag3 rfl (cell_ext hu hc17)) ?_
          refine RA.gtake 9 rfl (by kernel_rfl) rfl rfl (bool_eq hb16) rfl (by decide) (fun _ => r_move_as (v := (.slice (some ⟨b, o, none⟩) (n) (cap))) ((hoff12 0 rfl).trans ((hF9 0).trans ((hoff5 0 rfl).trans ((hF2 0).trans (hF0 0)))))) ?_
          refine RA.gtake 10 rfl (by kernel_rfl) rfl rfl (bool_eq hb16) rfl (by decide) (fun _ => r_move_as (v := (.int .i64 (((a + S1.length : Nat) : Int)))) hs13) ?_
          refine RA.gtake 11 rfl (by kernel_rfl) rfl rfl (bool_eq hb16) rfl (by decide) (fun _ => r_sub (k := .i64) (a := ((a + S1.length : Nat) : Int)) (b := 1) (c := ((a + S1.length - 1 : Nat) : Int)) rfl rfl ((wi64 (by omega)).trans (by omega))) ?_
          refine RA.gtake 12 rfl (by kernel_rfl) rfl rfl (bool_eq hb16) rfl (by decide) (fun _ => r_indexAddr (i := ((a + S1.length - 1 : Nat) : Int)) Try.underlying26 ty3 rfl rfl (by omega) (by omega)) ?_
          have hc18 := ha.cell (i := ((a + S1.length - 1 : Nat) : Int)) (a + S1.length - 1) (by omega) (by omega)
          rw [show (LA ++ S1 ++ x :: S2 ++ LS.drop (k + 1) ++ LB).getD (a + S1.length - 1) default = y from (by rw [show (LA ++ S1 ++ x :: S2 ++ LS.drop (k + 1) ++ LB) = (LA ++ S3) ++ y :: (x :: S2 ++ LS.drop (k + 1) ++ LB) from by simp [hS1]]; exact getD_mid _ _ _ _ (by simp [hS1, h1]))] at hc18
          refine RA.grd 13 rfl (by kernel_rfl) rfl rfl rfl (bool_eq hb16) rfl (by decide) (Ext.refl _) (fun u hu => r_load (v := (.int .i64 (y))) Try.underlying3 ag3 rfl (cell_ext hu hc18)) ?_
          refine RA.all [14] (by kernel_rfl) rfl ?_
          refine RS.gcall rfl rfl rfl (bool_eq hb16) rfl (by decide) (r_callv (vl := [(.int .i64 (x)), (.int .i64 (y))]) (cl := cl) rfl hent rfl) (hcmp _ (hw0.trans hE) (x) (y) (hok _ hxin) (hok _ (hSin y (by rw [hSS, hS1]; simp)))) ?_ RS.nil
          rintro _ w19 ⟨rfl, he20⟩
          refine ⟨.inr (.inr he20), RA.more (S' := fun u => Ext _ u) (fun u hu => Ext.trans he20 hu) ?_⟩
          replace ha := ha.ext he20
          replace hE := hE.trans (Exc.of_ext he20)
          refine RA.gtake 15 rfl (by kernel_rfl) rfl rfl (bool_eq hb16) rfl (by decide) (fun _ => r_lss (k := .i64) (a := cmpI (key x) (key y)) (b := 0) rfl rfl) ?_
          refine RA.take 16 rfl (by kernel_rfl) rfl rfl (by decide) (fun _ => r_pick_t (v := (.bool (decide ((cmpI (key x) (key y)) < 0)))) (bool_eq hb16) rfl) ?_
          refine RA.done (by kernel_rfl) ?_
          refine wcond (b := decide ((cmpI (key x) (key y)) < 0)) rfl (fun hb21 => ?_) (fun hb21 => ?_)
          · have hb21p := hb21
            replace hb21p := of_decide_eq_true hb21p
            have hxy : key x < key y := by unfold cmpI at hb21p; (repeat split at hb21p) <;> omega
            refine wskip ?_
            refine wseq ?_
            refine wblock ?_
            refine wdraw mixed fun w22 he23 => ?_
            have he23z := he23.size
            replace ha := ha.ext he23
            replace hE := hE.trans (Exc.of_ext he23)
            refine RA.take 0 rfl (by kernel_rfl) rfl rfl (by decide) (fun _ => r_move_as (v := (.slice (some ⟨b, o, none⟩) (n) (cap))) ((hoff12 0 rfl).trans ((hF9 0).trans ((hoff5 0 rfl).trans ((hF2 0).trans (hF0 0)))))) ?_
            refine RA.take 1 rfl (by kernel_rfl) rfl rfl (by decide) (fun _ => r_move_as (v := (.int .i64 (((a + S1.length : Nat) : Int)))) hs13) ?_
            refine RA.take 2 rfl (by kernel_rfl) rfl rfl (by decide) (fun _ => r_move_as (v := (.slice (some ⟨b, o, none⟩) (n) (cap))) ((hoff12 0 rfl).trans ((hF9 0).trans ((hoff5 0 rfl).trans ((hF2 0).trans (hF0 0)))))) ?_
            refine RA.take 3 rfl (by kernel_rfl) rfl rfl (by decide) (fun _ => r_move_as (v := (.int .i64 (((a + S1.length : Nat) : Int)))) hs13) ?_
            refine RA.take 4 rfl (by kernel_rfl) rfl rfl (by decide) (fun _ => r_sub (k := .i64) (a := ((a + S1.length : Nat) : Int)) (b := 1) (c := ((a + S1.length - 1 : Nat) : Int)) rfl rfl ((wi64 (by omega)).trans (by omega))) ?_
            refine RA.take 5 rfl (by kernel_rfl) rfl rfl (by decide) (fun _ => r_move_as (v := (.slice (some ⟨b, o, none⟩) (n) (cap))) ((hoff12 0 rfl).trans ((hF9 0).trans ((hoff5 0 rfl).trans ((hF2 0).trans (hF0 0)))))) ?_
            refine RA.take 6 rfl (by kernel_rfl) rfl rfl (by decide) (fun _ => r_move_as (v := (.int .i64 (((a + S1.length : Nat) : Int)))) hs13) ?_
            refine RA.take 7 rfl (by kernel_rfl) rfl rfl (by decide) (fun _ => r_sub (k := .i64) (a := ((a + S1.length : Nat) : Int)) (b := 1) (c := ((a + S1.length - 1 : Nat) : Int)) rfl rfl ((wi64 (by omega)).trans (by omega))) ?_
            refine RA.take 8 rfl (by kernel_rfl) rfl rfl (by decide) (fun _ => r_indexAddr (i := ((a + S1.length - 1 : Nat) : Int)) Try.underlying26 ty3 rfl rfl (by omega) (by omega)) ?_
            have hc24 := ha.cell (i := ((a + S1.length - 1 : Nat) : Int)) (a + S1.length - 1) (by omega) (by omega)
            rw [show (LA ++ S1 ++ x :: S2 ++ LS.drop (k + 1) ++ LB).getD (a + S1.length - 1) default = y from (by rw [show (LA ++ S1 ++ x :: S2 ++ LS.drop (k + 1) ++ LB) = (LA ++ S3) ++ y :: (x :: S2 ++ LS.drop (k + 1) ++ LB) from by simp [hS1]]; exact getD_mid _ _ _ _ (by simp [hS1, h1]))] at hc24
            refine RA.rd 9 rfl (by kernel_rfl) rfl rfl rfl (by decide) (Ext.refl _) (fun u hu => r_load (v := (.int .i64 (y))) Try.underlying3 ag3 rfl (cell_ext hu hc24)) ?_
            refine RA.take 10 rfl (by kernel_rfl) rfl rfl (by decide) (fun _ => r_move_as (v := (.slice (some ⟨b, o, none⟩) (n) (cap))) ((hoff12 0 rfl).trans ((hF9 0).trans ((hoff5 0 rfl).trans ((hF2 0).trans (hF0 0)))))) ?_
            refine RA.take 11 rfl (by kernel_rfl) rfl rfl (by decide) (fun _ => r_move_as (v := (.int .i64 (((a + S1.length : Nat) : Int)))) hs13) ?_
            refine RA.take 12 rfl (by kernel_rfl) rfl rfl (by decide) (fun _ => r_indexAddr (i := ((a + S1.length : Nat) : Int)) Try.underlying26 ty3 rfl rfl (by omega) (by omega)) ?_
            have hc25 := ha.cell (i := ((a + S1.length : Nat) : Int)) (a + S1.length) (by omega) (by omega)
            rw [show (LA ++ S1 ++ x :: S2 ++ LS.drop (k + 1) ++ LB).getD (a + S1.length) default = x from (by rw [show (LA ++ S1 ++ x :: S2 ++ LS.drop (k + 1) ++ LB) = (LA ++ S1) ++ x :: (S2 ++ LS.drop (k + 1) ++ LB) from by simp]; exact getD_mid _ _ _ _ (by simp [h1]))] at hc25
            refine RA.rd 13 rfl (by kernel_rfl) rfl rfl rfl (by decide) (Ext.refl _) (fun u hu => r_load (v := (.int .i64 (x))) Try.underlying3 ag3 rfl (cell_ext hu hc25)) ?_
            refine RA.take 14 rfl (by kernel_rfl) rfl rfl (by decide) (fun _ => r_indexAddr (i := ((a + S1.length : Nat) : Int)) Try.underlying26 ty3 rfl rfl (by omega) (by omega)) ?_
            refine RA.all [15] (by kernel_rfl) rfl ?_
            refine RS.runs rfl rfl rfl (h_set (g := (gI .i64)) (vv := (.int .i64 (y))) (u := y) (i := ((a + S1.length : Nat) : Int)) ty3 rfl rfl rfl rfl rfl ha (a + S1.length) (by omega) (by omega)) ?_ RS.nil
            rintro w26 ⟨ha27, hx28⟩
            refine ⟨.inr (.inl (by kernel_rfl)), ?_⟩
            have hx28z := hx28.size
            replace hE := hE.trans hx28
            replace ha := ha27
            refine RA.take 16 rfl (by kernel_rfl) rfl rfl (by decide) (fun _ => r_indexAddr (i := ((a + S1.length - 1 : Nat) : Int)) Try.underlying26 ty3 rfl rfl (by omega) (by omega)) ?_
            refine RA.all [17] (by kernel_rfl) rfl ?_
            refine RS.runs rfl rfl rfl (h_set (g := (gI .i64)) (vv := (.int .i64 (x))) (u := x) (i := ((a + S1.length - 1 : Nat) : Int)) ty3 rfl rfl rfl rfl rfl ha (a + S1.length - 1) (by omega) (by omega)) ?_ RS.nil
            rintro w29 ⟨ha30, hx31⟩
            refine ⟨.inr (.inl (by kernel_rfl)), ?_⟩
            have hx31z := hx31.size
            replace hE := hE.trans hx31
            replace ha := ha30
            refine RA.done (by kernel_rfl) ?_
            refine wregion ?_
            refine RL.val rfl rfl (by decide) (r_move_as (v := (.int .i64 (((a + S1.length : Nat) : Int)))) hs13) ?_
            refine RL.val rfl rfl (by decide) (r_sub (k := .i64) (a := ((a + S1.length : Nat) : Int)) (b := 1) (c := ((a + S1.length : Nat) : Int) - 1) rfl rfl (wi64 (by omega))) ?_
            refine RL.val rfl rfl (by decide) (r_assign_as (v := (.int .i64 (((a + S1.length : Nat) : Int) - 1))) rfl) ?_
            refine RL.nil ?_
            refine ⟨(S3, y :: S2), ⟨?_, ?_, ?_, ?_, ?_, ?_⟩, ?_⟩
            · exact (by repeat (first | exact hoff12 | refine Off.st ?_ (by decide) _ | refine Off.via hoff5 (by decide) ?_ | refine Off.eq hF2 ?_))
            · exact int_eq (by rw [hS1]; simp; omega)
            · rw [hSS, hS1]; simp
            · intro z hz; rcases List.mem_cons.1 hz with rfl | hz; exact hxy; exact hlt z hz
            · rw [show (LA ++ S1 ++ x :: S2 ++ LS.drop (k + 1) ++ LB) = (LA ++ S3) ++ y :: x :: (S2 ++ LS.drop (k + 1) ++ LB) from by rw [hS1]; simp, set2 _ _ _ _ _ _ _ _ (by rw [hS1]; simp; omega) (by rw [hS1]; simp; omega)] at ha; simpa using ha
            · exact hE
            · show _ < _
              rw [hS1]; simp
          · have hb21p := hb21
            replace hb21p := of_decide_eq_false hb21p
            have hfin : S1 = [] ∨ ∃ S3 y, S1 = S3 ++ [y] ∧ key y ≤ key x := .inr ⟨S3, y, hS1, by unfold cmpI at hb21p; (repeat split at hb21p) <;> omega⟩
            refine wexit ?_
            refine wregion ?_
            refine RL.val rfl rfl (by decide) (r_move_as (v := (.int .i64 (((a + k : Nat) : Int)))) ((hoff12 8 rfl).trans ((hF9 8).trans hs6))) ?_
            refine RL.val rfl rfl (by decide) (r_add (k := .i64) (a := ((a + k : Nat) : Int)) (b := 1) (c := ((a + k : Nat) : Int) + 1) rfl rfl (wi64 (by omega))) ?_
            refine RL.val rfl rfl (by decide) (r_assign_as (v := (.int .i64 (((a + k : Nat) : Int) + 1))) rfl) ?_
            refine RL.nil ?_
            refine ⟨(k + 1, S1 ++ x :: S2), ⟨?_, ?_, ?_, ?_, ?_, ?_, ?_, ?_, ?_⟩, ?_⟩
            · exact (by repeat (first | exact hoff5 | refine Off.st ?_ (by decide) _ | refine Off.via hoff12 (by decide) ?_ | refine Off.eq hF9 ?_))
            · exact int_eq (by omega)
            · omega
            · omega
            · simp; omega
            · exact ins_srt (hSS ▸ hSrt) hlt hfin
            · rw [take_snoc LS k hkl, ← hx]; exact (StE.append (hSS ▸ hSt) (StE.refl _ [x])).trans (ins_ste hlt)
            · simpa using ha
            · exact hE
            · (try dsimp only)
              omega
        · have hb16p := hb16
          replace hb16p := of_decide_eq_false hb16p
          have hfin : S1 = [] ∨ ∃ S3 y, S1 = S3 ++ [y] ∧ key y ≤ key x := .inl (List.eq_nil_of_length_eq_zero (by omega))
          refine RA.gno 4 rfl (by kernel_rfl) rfl rfl (.inl (bool_eq hb16)) rfl (by decide) ?_
          refine RA.gno 5 rfl (by kernel_rfl) rfl rfl (.inl (bool_eq hb16)) rfl (by decide) ?_
          refine RA.gno 6 rfl (by kernel_rfl) rfl rfl (.inl (bool_eq hb16)) rfl (by decide) ?_
          refine RA.gno 7 rfl (by kernel_rfl) rfl rfl (.inl (bool_eq hb16)) rfl (by decide) ?_
          refine RA.gno 8 rfl (by kernel_rfl) rfl rfl (.inl (bool_eq hb16)) rfl (by decide) ?_
          refine RA.gno 9 rfl (by kernel_rfl) rfl rfl (.inl (bool_eq hb16)) rfl (by decide) ?_
          refine RA.gno 10 rfl (by kernel_rfl) rfl rfl (.inl (bool_eq hb16)) rfl (by decide) ?_
          refine RA.gno 11 rfl (by kernel_rfl) rfl rfl (.inl (bool_eq hb16)) rfl (by decide) ?_
          refine RA.gno 12 rfl (by kernel_rfl) rfl rfl (.inl (bool_eq hb16)) rfl (by decide) ?_
          refine RA.gno 13 rfl (by kernel_rfl) rfl rfl (.inl (bool_eq hb16)) rfl (by decide) ?_
          refine RA.all [14] (by kernel_rfl) rfl ?_
          refine RS.gno rfl rfl rfl (.inl (bool_eq hb16)) rfl (by decide) (.inr (.inl (by kernel_rfl))) ?_ RS.nil
          refine RA.gno 15 rfl (by kernel_rfl) rfl rfl (.inl (bool_eq hb16)) rfl (by decide) ?_
          refine RA.take 16 rfl (by kernel_rfl) rfl rfl (by decide) (fun _ => r_pick_f (v := (.bool (false))) (bool_eq hb16) rfl) ?_
          refine RA.done (by kernel_rfl) ?_
          refine wcond_f rfl ?_
          refine wexit ?_
          refine wregion ?_
          refine RL.val rfl rfl (by decide) (r_move_as (v := (.int .i64 (((a + k : Nat) : Int)))) ((hoff12 8 rfl).trans ((hF9 8).trans hs6))) ?_
          refine RL.val rfl rfl (by decide) (r_add (k := .i64) (a := ((a + k : Nat) : Int)) (b := 1) (c := ((a + k : Nat) : Int) + 1) rfl rfl (wi64 (by omega))) ?_
          refine RL.val rfl rfl (by decide) (r_assign_as (v := (.int .i64 (((a + k : Nat) : Int) + 1))) rfl) ?_
          refine RL.nil ?_
          refine ⟨(k + 1, S1 ++ x :: S2), ⟨?_, ?_, ?_, ?_, ?_, ?_, ?_, ?_, ?_⟩, ?_⟩
          · exact (by repeat (first | exact hoff5 | refine Off.st ?_ (by decide) _ | refine Off.via hoff12 (by decide) ?_ | refine Off.eq hF9 ?_))
          · exact int_eq (by omega)
          · omega
          · omega
          · simp; omega
          · exact ins_srt (hSS ▸ hSrt) hlt hfin
          · rw [take_snoc LS k hkl, ← hx]; exact (StE.append (hSS ▸ hSt) (StE.refl _ [x])).trans (ins_ste hlt)
          · simpa using ha
          · exact hE
          · (try dsimp only)
            omega
    · have hb7p := hb7
      replace hb7p := of_decide_eq_false hb7p
      refine wexit ?_
      refine ⟨[], trivial, ?_⟩
      have hkk : LS.length ≤ k := by omega
      rw [List.drop_of_length_le hkk] at ha
      rw [List.take_of_length_le hkk] at hSt
      exact ⟨rfl, ⟨S, by simpa using ha, hSrt, hSt⟩, hE⟩

end Go.Proofs.Ytppgppnkhpjlpaa
