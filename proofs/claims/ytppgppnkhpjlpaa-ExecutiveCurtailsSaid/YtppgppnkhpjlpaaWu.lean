/- Walks, printed by program. -/
import Derived.Test.YtppgppnkhpjlpaaWt
namespace Go.Proofs.Ytppgppnkhpjlpaa
open Go.Vg Go.RowKit
set_option linter.unusedVariables false

open Go.Vm

def SymOk (kc : Nat) (cl : List Value) (key : Int → Int) (ok : Int → Prop) (b o n cap : Nat) (w0 : World) (N : Nat) : Prop :=
  ∀ (a m c : Nat) (LA L R LB : List Int) (w : World), Ar (gI .i64) w b 3 o (LA ++ L ++ R ++ LB) n → LA.length = a → a + L.length = m → m + R.length = c → 0 < L.length → 0 < R.length → Srt key L → Srt key R → (∀ x ∈ L ++ R, ok x) → Exc b w0 w → c - a ≤ N →
    Calls Try.prog 35 #[.slice (some ⟨b, o, none⟩) n cap, .int .i64 (a : Int), .int .i64 (m : Int), .int .i64 (c : Int), .func (.func kc) #[] cl.toArray] w fun e w' => ∃ v, e = .returned v ∧ v = .tuple #[] ∧ (∃ l, Ar (gI .i64) w' b 3 o (LA ++ l ++ LB) n ∧ Srt key l ∧ StE key (L ++ R) l) ∧ Exc b w w'

set_option maxHeartbeats 4000000 in
theorem symMerge_step {b o n cap : Nat} {w : World} {kc : Nat} {cl : List Value} {key : Int → Int} {ok : Int → Prop} {w0 : World} (hent : Ent Try.prog kc) (hcmp : CmpOk Try.prog kc cl (gI .i64) key ok b w0) (hw0 : Exc b w0 w) {a m c N : Nat} {LA L R LB : List Int} (ih : SymOk kc cl key ok b o n cap w0 N) (ha : Ar (gI .i64) w b 3 o (LA ++ L ++ R ++ LB) n) (hsz : n ≤ 4611686018427387903) (h1 : LA.length = a) (h2 : a + L.length = m) (h3 : m + R.length = c) (h4 : 0 < L.length) (h5 : 0 < R.length) (hsL : Srt key L) (hsR : Srt key R) (hok : ∀ x ∈ L ++ R, ok x) (hN : c - a ≤ N + 1) :
    Calls Try.prog 35 #[(.slice (some ⟨b, o, none⟩) (n) (cap)), (.int .i64 (((a : Nat) : Int))), (.int .i64 (((m : Nat) : Int))), (.int .i64 (((c : Nat) : Int))), (.func (.func kc) #[] cl.toArray)] w fun e w' => ∃ v, e = .returned v ∧ v = .tuple #[] ∧ (∃ l, Ar (gI .i64) w' b 3 o (LA ++ l ++ LB) n ∧ Srt key l ∧ StE key (L ++ R) l) ∧ Exc b w w' := by
  have hE : Exc b w w := Exc.of_ext (Ext.refl _)
  have hn : LA.length + L.length + R.length + LB.length = n := by have := ha.2; simp at this; omega
  refine calls_of (n := 220) (rs := []) Try.func35 rfl rfl rfl (Nat.le_of_ble_eq_true rfl) ?_
  refine wset fun F0 hF0 => ?_
  refine wseq ?_
  refine wseq ?_
  refine wregion ?_
  refine RL.val rfl rfl (by decide) (r_move_as (v := (.int .i64 (((m : Nat) : Int)))) (hF0 2)) ?_
  refine RL.val rfl rfl (by decide) (r_move_as (v := (.int .i64 (((a : Nat) : Int)))) (hF0 1)) ?_
  refine RL.val rfl rfl (by decide) (r_sub (k := .i64) (a := ((m : Nat) : Int)) (b := ((a : Nat) : Int)) (c := ((m - a : Nat) : Int)) rfl rfl ((wi64 (by omega)).trans (by omega))) ?_
  refine RL.val rfl rfl (by decide) (r_eql (k := .i64) (a := ((m - a : Nat) : Int)) (b := 1) rfl rfl) ?_
  refine RL.nil ?_
  refine wcond (b := decide (((m - a : Nat) : Int) = 1)) rfl (fun hb1 => ?_) (fun hb1 => ?_)
  · have hb1p := hb1
    replace hb1p := of_decide_eq_true hb1p
    refine wseq ?_
    refine wregion ?_
    refine RL.val rfl rfl (by decide) (r_move_as (v := (.int .i64 (((m : Nat) : Int)))) (hF0 2)) ?_
    refine RL.val rfl rfl (by decide) (r_assign_as (v := (.int .i64 (((m : Nat) : Int)))) rfl) ?_
    refine RL.nil ?_
    refine wseq ?_
    refine wregion ?_
    refine RL.val rfl rfl (by decide) (r_move_as (v := (.int .i64 (((c : Nat) : Int)))) (hF0 3)) ?_
    refine RL.val rfl rfl (by decide) (r_assign_as (v := (.int .i64 (((c : Nat) : Int)))) rfl) ?_
    refine RL.nil ?_
    refine wseq ?_
    refine wblock ?_
    refine wset fun F2 hF3 => ?_
    refine wloop (σ := Nat × Nat) (fun (s : Nat × Nat) fl wl => match s with | (i, j) => Off [10, 11, 12, 31, 32, 33, 34, 35, 36, 37, 38, 39, 40, 41, 42, 43, 44, 45, 46, 47, 48, 49, 50, 51, 52, 53] F2 fl ∧ fl 10 = (.int .i64 (((i : Nat) : Int))) ∧ fl 11 = (.int .i64 (((j : Nat) : Int))) ∧ (m ≤ i ∧ i ≤ j ∧ j ≤ c) ∧ (i = m ∨ key (R.getD (i - 1 - m) default) < key (L.getD 0 default)) ∧ (j = c ∨ key (L.getD 0 default) ≤ key (R.getD (j - m) default)) ∧ (Ar (gI .i64) wl b 3 o (LA ++ L ++ R ++ LB) n) ∧ (Exc b w wl)) (fun (s : Nat × Nat) => match s with | (i, j) => j - i) (m, c) ?_ ?_
    · exact ⟨Off.refl _ _, (hF3 10).trans (rfl), (hF3 11).trans (rfl), by omega, .inl rfl, .inl rfl, ha, hE⟩
    · clear ha hE
      rintro ⟨i, j⟩ f4 w5 ⟨hoff6, hs7, hs8, hij, hlo, hhi, ha, hE⟩
      refine wseq ?_
      refine wseq ?_
      refine wregion ?_
      refine RL.val rfl rfl (by decide) (r_move_as (v := (.int .i64 (((i : Nat) : Int)))) hs7) ?_
      refine RL.val rfl rfl (by decide) (r_move_as (v := (.int .i64 (((j : Nat) : Int)))) hs8) ?_
      refine RL.val rfl rfl (by decide) (r_lss (k := .i64) (a := ((i : Nat) : Int)) (b := ((j : Nat) : Int)) rfl rfl) ?_
      refine RL.nil ?_
      refine wcond (b := decide (((i : Nat) : Int) < ((j : Nat) : Int))) rfl (fun hb9 => ?_) (fun hb9 => ?_)
      · have hb9p := hb9
        replace hb9p := of_decide_eq_true hb9p
        refine wskip ?_
        refine wblock ?_
        refine wseq ?_
        refine wregion ?_
        refine RL.val rfl rfl (by decide) (r_move_as (v := (.int .i64 (((i : Nat) : Int)))) hs7) ?_
        refine RL.val rfl rfl (by decide) (r_move_as (v := (.int .i64 (((j : Nat) : Int)))) hs8) ?_
        refine RL.val rfl rfl (by decide) (r_add (k := .i64) (a := ((i : Nat) : Int)) (b := ((j : Nat) : Int)) (c := ((i + j : Nat) : Int)) rfl rfl ((wi64 (by omega)).trans (by omega))) ?_
        refine RL.val rfl rfl (by decide) (r_conv (k := .u64) (a := ((i + j : Nat) : Int)) (c := ((i + j : Nat) : Int)) Try.underlying3 Try.underlying77 rfl (wu64 (by omega))) ?_
        refine RL.val rfl rfl (by decide) (r_shr (k := .u64) (a := ((i + j : Nat) : Int)) (b := 1) (c := (((i + j) / 2 : Nat) : Int)) rfl rfl (by decide) (shr_one _)) ?_
        refine RL.val rfl rfl (by decide) (r_conv (k := .i64) (a := (((i + j) / 2 : Nat) : Int)) (c := (((i + j) / 2 : Nat) : Int)) Try.underlying77 Try.underlying3 rfl (wi64 (by omega))) ?_
        refine RL.val rfl rfl (by decide) (r_assign_as (v := (.int .i64 ((((i + j) / 2 : Nat) : Int)))) rfl) ?_
        refine RL.nil ?_
        refine wseq ?_
        refine wdraw mixed fun w10 he11 => ?_
        have he11z := he11.size
        replace ha := ha.ext he11
        replace hE := hE.trans (Exc.of_ext he11)
        refine RA.take 0 rfl (by kernel_rfl) rfl rfl (by decide) (fun _ => r_move_as (v := (.func (.func kc) #[] cl.toArray)) ((hoff6 4 rfl).trans ((hF3 4).trans (hF0 4)))) ?_
        refine RA.take 1 rfl (by kernel_rfl) rfl rfl (by decide) (fun _ => r_move_as (v := (.slice (some ⟨b, o, none⟩) (n) (cap))) ((hoff6 0 rfl).trans ((hF3 0).trans (hF0 0)))) ?_
        refine RA.take 2 rfl (by kernel_rfl) rfl rfl (by decide) (fun _ => r_move_as (v := (.int .i64 ((((i + j) / 2 : Nat) : Int)))) rfl) ?_
        refine RA.take 3 rfl (by kernel_rfl) rfl rfl (by decide) (fun _ => r_indexAddr (i := (((i + j) / 2 : Nat) : Int)) Try.underlying26 ty3 rfl rfl (by omega) (by omega)) ?_
        have hc12 := ha.cell (i := (((i + j) / 2 : Nat) : Int)) ((i + j) / 2) (by omega) (by omega)
        rw [show (LA ++ L ++ R ++ LB).getD ((i + j) / 2) default = R.getD ((i + j) / 2 - m) default from (getD_seg (LA ++ L) R LB _ _ (by simp; omega) (by omega))] at hc12
        refine RA.rd 4 rfl (by kernel_rfl) rfl rfl rfl (by decide) (Ext.refl _) (fun u hu => r_load (v := (.int .i64 (R.getD ((i + j) / 2 - m) default))) Try.underlying3 ag3 rfl (cell_ext hu hc12)) ?_
        refine RA.take 5 rfl (by kernel_rfl) rfl rfl (by decide) (fun _ => r_move_as (v := (.slice (some ⟨b, o, none⟩) (n) (cap))) ((hoff6 0 rfl).trans ((hF3 0).trans (hF0 0)))) ?_
        refine RA.take 6 rfl (by kernel_rfl) rfl rfl (by decide) (fun _ => r_move_as (v := (.int .i64 (((a : Nat) : Int)))) ((hoff6 1 rfl).trans ((hF3 1).trans (hF0 1)))) ?_
        refine RA.take 7 rfl (by kernel_rfl) rfl rfl (by decide) (fun _ => r_indexAddr (i := ((a : Nat) : Int)) Try.underlying26 ty3 rfl rfl (by omega) (by omega)) ?_
        have hc13 := ha.cell (i := ((a : Nat) : Int)) (a) (by omega) (by omega)
        rw [show (LA ++ L ++ R ++ LB).getD (a) default = L.getD 0 default from (by rw [List.append_assoc (LA ++ L)]; exact getD_seg LA L (R ++ LB) _ _ (by omega) (by omega))] at hc13
        refine RA.rd 8 rfl (by kernel_rfl) rfl rfl rfl (by decide) (Ext.refl _) (fun u hu => r_load (v := (.int .i64 (L.getD 0 default))) Try.underlying3 ag3 rfl (cell_ext hu hc13)) ?_
        refine RA.all [9] (by kernel_rfl) rfl ?_
        refine RS.call rfl rfl rfl (by decide) (r_callv (vl := [(.int .i64 (R.getD ((i + j) / 2 - m) default)), (.int .i64 (L.getD 0 default))]) (cl := cl) rfl hent rfl) (hcmp _ (hw0.trans hE) (R.getD ((i + j) / 2 - m) default) (L.getD 0 default) (hok _ (List.mem_append.2 (.inr (getD_mem _ _ (by omega))))) (hok _ (List.mem_append.2 (.inl (getD_mem _ _ (by omega)))))) ?_ RS.nil
        rintro _ w14 ⟨rfl, he15⟩
        refine ⟨.inr (.inr he15), RA.more (S' := fun u => Ext _ u) (fun u hu => Ext.trans he15 hu) ?_⟩
        replace ha := ha.ext he15
        replace hE := hE.trans (Exc.of_ext he15)
        refine RA.take 10 rfl (by kernel_rfl) rfl rfl (by decide) (fun _ => r_lss (k := .i64) (a := cmpI (key (R.getD ((i + j) / 2 - m) default)) (key (L.getD 0 default))) (b := 0) rfl rfl) ?_
        refine RA.done (by kernel_rfl) ?_
        refine wcond (b := decide ((cmpI (key (R.getD ((i + j) / 2 - m) default)) (key (L.getD 0 default))) < 0)) rfl (fun hb16 => ?_) (fun hb16 => ?_)
        · have hb16p := hb16
          replace hb16p := of_decide_eq_true hb16p
          have hkey : key (R.getD ((i + j) / 2 - m) default) < key (L.getD 0 default) := key_lt (by have h9 := hb16p; unfold cmpI at h9; exact h9)
          refine wregion ?_
          refine RL.val rfl rfl (by decide) (r_move_as (v := (.int .i64 ((((i + j) / 2 : Nat) : Int)))) rfl) ?_
          refine RL.val rfl rfl (by decide) (r_add (k := .i64) (a := (((i + j) / 2 : Nat) : Int)) (b := 1) (c := (((i + j) / 2 + 1 : Nat) : Int)) rfl rfl ((wi64 (by omega)).trans (by omega))) ?_
          refine RL.val rfl rfl (by decide) (r_assign_as (v := (.int .i64 ((((i + j) / 2 + 1 : Nat) : Int)))) rfl) ?_
          refine RL.nil ?_
          refine ⟨((i + j) / 2 + 1, j), ⟨?_, ?_, ?_, ?_, ?_, ?_, ?_, ?_⟩, ?_⟩
          · exact (by repeat (first | exact hoff6 | refine Off.st ?_ (by decide) _))
          · first | rfl | exact int_eq (by omega) | exact bool_eq (by simp)
          · refine (hs8).trans ?_
            first | rfl | exact int_eq (by omega) | exact bool_eq (by simp)
          · omega
          · exact .inr (by rw [show (i + j) / 2 + 1 - 1 - m = (i + j) / 2 - m by omega]; exact hkey)
          · exact hhi
          · exact ha
          · exact hE
          · (try dsimp only)
            omega
        · have hb16p := hb16
          replace hb16p := of_decide_eq_false hb16p
          have hkey : key (L.getD 0 default) ≤ key (R.getD ((i + j) / 2 - m) default) := key_ge (by have h9 := hb16p; unfold cmpI at h9; exact h9)
          refine wregion ?_
          refine RL.val rfl rfl (by decide) (r_move_as (v := (.int .i64 ((((i + j) / 2 : Nat) : Int)))) rfl) ?_
          refine RL.val rfl rfl (by decide) (r_assign_as (v := (.int .i64 ((((i + j) / 2 : Nat) : Int)))) rfl) ?_
          refine RL.nil ?_
          refine ⟨(i, (i + j) / 2), ⟨?_, ?_, ?_, ?_, ?_, ?_, ?_, ?_⟩, ?_⟩
          · exact (by repeat (first | exact hoff6 | refine Off.st ?_ (by decide) _))
          · refine (hs7).trans ?_
            first | rfl | exact int_eq (by omega) | exact bool_eq (by simp)
          · first | rfl | exact int_eq (by omega) | exact bool_eq (by simp)
          · omega
          · exact hlo
          · exact .inr hkey
          · exact ha
          · exact hE
          · (try dsimp only)
            omega
      · have hb9p := hb9
        replace hb9p := of_decide_eq_false hb9p
        refine wexit ?_
        refine wseq ?_
        refine wseq ?_
        refine wregion ?_
        refine RL.val rfl rfl (by decide) (r_move_as (v := (.int .i64 (((a : Nat) : Int)))) ((hoff6 1 rfl).trans ((hF3 1).trans (hF0 1)))) ?_
        refine RL.val rfl rfl (by decide) (r_assign_as (v := (.int .i64 (((a : Nat) : Int)))) rfl) ?_
        refine RL.nil ?_
        refine wblock ?_
        refine wset fun F17 hF18 => ?_
        refine wloop (σ := List Int × List Int) (fun (s : List Int × List Int) fl wl => match s with | (U, V) => Off [13, 55, 56, 57, 58, 59, 60, 61, 62, 63, 64, 65, 66, 67, 68, 69, 70, 71, 72, 73, 74, 75, 76] F17 fl ∧ fl 13 = (.int .i64 (((a + U.length : Nat) : Int))) ∧ (R.take (i - m) = U ++ V) ∧ (Ar (gI .i64) wl b 3 o (LA ++ U ++ L.getD 0 default :: V ++ R.drop (i - m) ++ LB) n) ∧ (Exc b w wl)) (fun (s : List Int × List Int) => match s with | (U, V) => V.length) ([], R.take (i - m)) ?_ ?_
        · exact ⟨Off.refl _ _, (hF18 13).trans ((int_eq (by simp))), by simp, (one_left LA L R LB (i - m) (by omega) ▸ ha), hE⟩
        · clear ha hE
          rintro ⟨U, V⟩ f19 w20 ⟨hoff21, hs22, hUV, ha, hE⟩
          have hUVl : U.length + V.length = i - m := by have := congrArg List.length hUV; simp at this; omega
          refine wseq ?_
          refine wseq ?_
          refine wregion ?_
          refine RL.val rfl rfl (by decide) (r_move_as (v := (.int .i64 (((a + U.length : Nat) : Int)))) hs22) ?_
          refine RL.val rfl rfl (by decide) (r_move_as (v := (.int .i64 (((i : Nat) : Int)))) ((hoff21 10 rfl).trans ((hF18 10).trans hs7))) ?_
          refine RL.val rfl rfl (by decide) (r_sub (k := .i64) (a := ((i : Nat) : Int)) (b := 1) (c := ((i - 1 : Nat) : Int)) rfl rfl ((wi64 (by omega)).trans (by omega))) ?_
          refine RL.val rfl rfl (by decide) (r_lss (k := .i64) (a := ((a + U.length : Nat) : Int)) (b := ((i - 1 : Nat) : Int)) rfl rfl) ?_
          refine RL.nil ?_
          refine wcond (b := decide (((a + U.length : Nat) : Int) < ((i - 1 : Nat) : Int))) rfl (fun hb23 => ?_) (fun hb23 => ?_)
          · have hb23p := hb23
            replace hb23p := of_decide_eq_true hb23p
            obtain ⟨v, V', hV⟩ := cons_of V (by omega)
            have hVl : V.length = V'.length + 1 := by rw [hV]; simp
            refine wskip ?_
            refine wseq ?_
            refine wblock ?_
            refine wdraw mixed fun w24 he25 => ?_
            have he25z := he25.size
            replace ha := ha.ext he25
            replace hE := hE.trans (Exc.of_ext he25)
            refine RA.take 0 rfl (by kernel_rfl) rfl rfl (by decide) (fun _ => r_move_as (v := (.slice (some ⟨b, o, none⟩) (n) (cap))) ((hoff21 0 rfl).trans ((hF18 0).trans ((hoff6 0 rfl).trans ((hF3 0).trans (hF0 0)))))) ?_
            refine RA.take 1 rfl (by kernel_rfl) rfl rfl (by decide) (fun _ => r_move_as (v := (.int .i64 (((a + U.length : Nat) : Int)))) hs22) ?_
            refine RA.take 2 rfl (by kernel_rfl) rfl rfl (by decide) (fun _ => r_move_as (v := (.slice (some ⟨b, o, none⟩) (n) (cap))) ((hoff21 0 rfl).trans ((hF18 0).trans ((hoff6 0 rfl).trans ((hF3 0).trans (hF0 0)))))) ?_
            refine RA.take 3 rfl (by kernel_rfl) rfl rfl (by decide) (fun _ => r_move_as (v := (.int .i64 (((a + U.length : Nat) : Int)))) hs22) ?_
            refine RA.take 4 rfl (by kernel_rfl) rfl rfl (by decide) (fun _ => r_add (k := .i64) (a := ((a + U.length : Nat) : Int)) (b := 1) (c := ((a + U.length + 1 : Nat) : Int)) rfl rfl ((wi64 (by omega)).trans (by omega))) ?_
            refine RA.take 5 rfl (by kernel_rfl) rfl rfl (by decide) (fun _ => r_move_as (v := (.slice (some ⟨b, o, none⟩) (n) (cap))) ((hoff21 0 rfl).trans ((hF18 0).trans ((hoff6 0 rfl).trans ((hF3 0).trans (hF0 0)))))) ?_
            refine RA.take 6 rfl (by kernel_rfl) rfl rfl (by decide) (fun _ => r_move_as (v := (.int .i64 (((a + U.length : Nat) : Int)))) hs22) ?_
            refine RA.take 7 rfl (by kernel_rfl) rfl rfl (by decide) (fun _ => r_add (k := .i64) (a := ((a + U.length : Nat) : Int)) (b := 1) (c := ((a + U.length + 1 : Nat) : Int)) rfl rfl ((wi64 (by omega)).trans (by omega))) ?_
            refine RA.take 8 rfl (by kernel_rfl) rfl rfl (by decide) (fun _ => r_indexAddr (i := ((a + U.length + 1 : Nat) : Int)) Try.underlying26 ty3 rfl rfl (by omega) (by omega)) ?_
            have hc26 := ha.cell (i := ((a + U.length + 1 : Nat) : Int)) (a + U.length + 1) (by omega) (by omega)
            rw [show (LA ++ U ++ L.getD 0 default :: V ++ R.drop (i - m) ++ LB).getD (a + U.length + 1) default = v from (by rw [show (LA ++ U ++ L.getD 0 default :: V ++ R.drop (i - m) ++ LB) = (LA ++ U ++ [L.getD 0 default]) ++ v :: (V' ++ R.drop (i - m) ++ LB) from by rw [hV]; simp]; exact getD_mid _ _ _ _ (by simp; omega))] at hc26
            refine RA.rd 9 rfl (by kernel_rfl) rfl rfl rfl (by decide) (Ext.refl _) (fun u hu => r_load (v := (.int .i64 (v))) Try.underlying3 ag3 rfl (cell_ext hu hc26)) ?_
            refine RA.take 10 rfl (by kernel_rfl) rfl rfl (by decide) (fun _ => r_move_as (v := (.slice (some ⟨b, o, none⟩) (n) (cap))) ((hoff21 0 rfl).trans ((hF18 0).trans ((hoff6 0 rfl).trans ((hF3 0).trans (hF0 0)))))) ?_
            refine RA.take 11 rfl (by kernel_rfl) rfl rfl (by decide) (fun _ => r_move_as (v := (.int .i64 (((a + U.length : Nat) : Int)))) hs22) ?_
            refine RA.take 12 rfl (by kernel_rfl) rfl rfl (by decide) (fun _ => r_indexAddr (i := ((a + U.length : Nat) : Int)) Try.underlying26 ty3 rfl rfl (by omega) (by omega)) ?_
            have hc27 := ha.cell (i := ((a + U.length : Nat) : Int)) (a + U.length) (by omega) (by omega)
            rw [show (LA ++ U ++ L.getD 0 default :: V ++ R.drop (i - m) ++ LB).getD (a + U.length) default = L.getD 0 default from (by rw [show (LA ++ U ++ L.getD 0 default :: V ++ R.drop (i - m) ++ LB) = (LA ++ U) ++ L.getD 0 default :: (V ++ R.drop (i - m) ++ LB) from by simp]; exact getD_mid _ _ _ _ (by simp; omega))] at hc27
            refine RA.rd 13 rfl (by kernel_rfl) rfl rfl rfl (by decide) (Ext.refl _) (fun u hu => r_load (v := (.int .i64 (L.getD 0 default))) Try.underlying3 ag3 rfl (cell_ext hu hc27)) ?_
            refine RA.take 14 rfl (by kernel_rfl) rfl rfl (by decide) (fun _ => r_indexAddr (i := ((a + U.length : Nat) : Int)) Try.underlying26 ty3 rfl rfl (by omega) (by omega)) ?_
            refine RA.all [15] (by kernel_rfl) rfl ?_
            refine RS.runs rfl rfl rfl (h_set (g := (gI .i64)) (vv := (.int .i64 (v))) (u := v) (i := ((a + U.length : Nat) : Int)) ty3 rfl rfl rfl rfl rfl ha (a + U.length) (by omega) (by omega)) ?_ RS.nil
            rintro w28 ⟨ha29, hx30⟩
            refine ⟨.inr (.inl (by kernel_rfl)), ?_⟩
            have hx30z := hx30.size
            replace hE := hE.trans hx30
            replace ha := ha29
            refine RA.take 16 rfl (by kernel_rfl) rfl rfl (by decide) (fun _ => r_indexAddr (i := ((a + U.length + 1 : Nat) : Int)) Try.underlying26 ty3 rfl rfl (by omega) (by omega)) ?_
            refine RA.all [17] (by kernel_rfl) rfl ?_
            refine RS.runs rfl rfl rfl (h_set (g := (gI .i64)) (vv := (.int .i64 (L.getD 0 default))) (u := L.getD 0 default) (i := ((a + U.length + 1 : Nat) : Int)) ty3 rfl rfl rfl rfl rfl ha (a + U.length + 1) (by omega) (by omega)) ?_ RS.nil
            rintro w31 ⟨ha32, hx33⟩
            refine ⟨.inr (.inl (by kernel_rfl)), ?_⟩
            have hx33z := hx33.size
            replace hE := hE.trans hx33
            replace ha := ha32
            refine RA.done (by kernel_rfl) ?_
            refine wregion ?_
            refine RL.val rfl rfl (by decide) (r_move_as (v := (.int .i64 (((a + U.length : Nat) : Int)))) hs22) ?_
            refine RL.val rfl rfl (by decide) (r_add (k := .i64) (a := ((a + U.length : Nat) : Int)) (b := 1) (c := ((a + U.length : Nat) : Int) + 1) rfl rfl (wi64 (by omega))) ?_
            refine RL.val rfl rfl (by decide) (r_assign_as (v := (.int .i64 (((a + U.length : Nat) : Int) + 1))) rfl) ?_
            refine RL.nil ?_
            refine ⟨(U ++ [v], V'), ⟨?_, ?_, ?_, ?_, ?_⟩, ?_⟩
            · exact (by repeat (first | exact hoff21 | refine Off.st ?_ (by decide) _ | refine Off.via hoff6 (by decide) ?_ | refine Off.eq hF3 ?_))
            · exact int_eq (by simp; omega)
            · rw [hUV, hV]; simp
            · rw [show (LA ++ U ++ L.getD 0 default :: V ++ R.drop (i - m) ++ LB) = (LA ++ U) ++ L.getD 0 default :: v :: (V' ++ R.drop (i - m) ++ LB) from by rw [hV]; simp, set2' _ _ _ _ _ _ _ _ (by simp; omega) (by simp; omega)] at ha; simpa using ha
            · exact hE
            · (try dsimp only)
              rw [hV]; simp
          · have hb23p := hb23
            replace hb23p := of_decide_eq_false hb23p
            refine wexit ?_
            refine wret ?_
            refine ⟨[], trivial, ?_⟩
            have hV0 : V = [] := List.eq_nil_of_length_eq_zero (by omega)
            obtain ⟨q1, q2⟩ := merge_left (x := L.getD 0 default) (p := i - m) hsR (by omega) (by rcases hlo with h | h; exact .inl (by omega); exact .inr (by rw [show i - m - 1 = i - 1 - m by omega]; exact h)) (by rcases hhi with h | h; exact .inl (by omega); exact .inr (by rw [show i = j by omega]; exact h))
            refine ⟨rfl, ⟨_, ?_, q1, ?_⟩, hE⟩
            · rw [hUV, hV0]; rw [hV0] at ha; simpa using ha
            · rw [list_one L (by omega)]; exact q2
  · have hb1p := hb1
    replace hb1p := of_decide_eq_false hb1p
    refine wskip ?_
    refine wseq ?_
    refine wseq ?_
    refine wregion ?_
    refine RL.val rfl rfl (by decide) (r_move_as (v := (.int .i64 (((c : Nat) : Int)))) (hF0 3)) ?_
    refine RL.val rfl rfl (by decide) (r_move_as (v := (.int .i64 (((m : Nat) : Int)))) (hF0 2)) ?_
    refine RL.val rfl rfl (by decide) (r_sub (k := .i64) (a := ((c : Nat) : Int)) (b := ((m : Nat) : Int)) (c := ((c - m : Nat) : Int)) rfl rfl ((wi64 (by omega)).trans (by omega))) ?_
    refine RL.val rfl rfl (by decide) (r_eql (k := .i64) (a := ((c - m : Nat) : Int)) (b := 1) rfl rfl) ?_
    refine RL.nil ?_
    refine wcond (b := decide (((c - m : Nat) : Int) = 1)) rfl (fun hb34 => ?_) (fun hb34 => ?_)
    · have hb34p := hb34
      replace hb34p := of_decide_eq_true hb34p
      refine wseq ?_
      refine wregion ?_
      refine RL.val rfl rfl (by decide) (r_move_as (v := (.int .i64 (((a : Nat) : Int)))) (hF0 1)) ?_
      refine RL.val rfl rfl (by decide) (r_assign_as (v := (.int .i64 (((a : Nat) : Int)))) rfl) ?_
      refine RL.nil ?_
      refine wseq ?_
      refine wregion ?_
      refine RL.val rfl rfl (by decide) (r_move_as (v := (.int .i64 (((m : Nat) : Int)))) (hF0 2)) ?_
      refine RL.val rfl rfl (by decide) (r_assign_as (v := (.int .i64 (((m : Nat) : Int)))) rfl) ?_
      refine RL.nil ?_
      refine wseq ?_
      refine wblock ?_
      refine wset fun F35 hF36 => ?_
      refine wloop (σ := Nat × Nat) (fun (s : Nat × Nat) fl wl => match s with | (i, j) => Off [14, 15, 16, 83, 84, 85, 86, 87, 88, 89, 90, 91, 92, 93, 94, 95, 96, 97, 98, 99, 100, 101, 102, 103, 104, 105, 106] F35 fl ∧ fl 14 = (.int .i64 (((i : Nat) : Int))) ∧ fl 15 = (.int .i64 (((j : Nat) : Int))) ∧ (a ≤ i ∧ i ≤ j ∧ j ≤ m) ∧ (i = a ∨ key (L.getD (i - 1 - a) default) ≤ key (R.getD 0 default)) ∧ (j = m ∨ key (R.getD 0 default) < key (L.getD (j - a) default)) ∧ (Ar (gI .i64) wl b 3 o (LA ++ L ++ R ++ LB) n) ∧ (Exc b w wl)) (fun (s : Nat × Nat) => match s with | (i, j) => j - i) (a, m) ?_ ?_
      · exact ⟨Off.refl _ _, (hF36 14).trans (rfl), (hF36 15).trans (rfl), by omega, .inl rfl, .inl rfl, ha, hE⟩
      · clear ha hE
        rintro ⟨i, j⟩ f37 w38 ⟨hoff39, hs40, hs41, hij, hlo, hhi, ha, hE⟩
        refine wseq ?_
        refine wseq ?_
        refine wregion ?_
        refine RL.val rfl rfl (by decide) (r_move_as (v := (.int .i64 (((i : Nat) : Int)))) hs40) ?_
        refine RL.val rfl rfl (by decide) (r_move_as (v := (.int .i64 (((j : Nat) : Int)))) hs41) ?_
        refine RL.val rfl rfl (by decide) (r_lss (k := .i64) (a := ((i : Nat) : Int)) (b := ((j : Nat) : Int)) rfl rfl) ?_
        refine RL.nil ?_
        refine wcond (b := decide (((i : Nat) : Int) < ((j : Nat) : Int))) rfl (fun hb42 => ?_) (fun hb42 => ?_)
        · have hb42p := hb42
          replace hb42p := of_decide_eq_true hb42p
          refine wskip ?_
          refine wblock ?_
          refine wseq ?_
          refine wregion ?_
          refine RL.val rfl rfl (by decide) (r_move_as (v := (.int .i64 (((i : Nat) : Int)))) hs40) ?_
          refine RL.val rfl rfl (by decide) (r_move_as (v := (.int .i64 (((j : Nat) : Int)))) hs41) ?_
          refine RL.val rfl rfl (by decide) (r_add (k := .i64) (a := ((i : Nat) : Int)) (b := ((j : Nat) : Int)) (c := ((i + j : Nat) : Int)) rfl rfl ((wi64 (by omega)).trans (by omega))) ?_
          refine RL.val rfl rfl (by decide) (r_conv (k := .u64) (a := ((i + j : Nat) : Int)) (c := ((i + j : Nat) : Int)) Try.underlying3 Try.underlying77 rfl (wu64 (by omega))) ?_
          refine RL.val rfl rfl (by decide) (r_shr (k := .u64) (a := ((i + j : Nat) : Int)) (b := 1) (c := (((i + j) / 2 : Nat) : Int)) rfl rfl (by decide) (shr_one _)) ?_
          refine RL.val rfl rfl (by decide) (r_conv (k := .i64) (a := (((i + j) / 2 : Nat) : Int)) (c := (((i + j) / 2 : Nat) : Int)) Try.underlying77 Try.underlying3 rfl (wi64 (by omega))) ?_
          refine RL.val rfl rfl (by decide) (r_assign_as (v := (.int .i64 ((((i + j) / 2 : Nat) : Int)))) rfl) ?_
          refine RL.nil ?_
          refine wseq ?_
          refine wdraw mixed fun w43 he44 => ?_
          have he44z := he44.size
          replace ha := ha.ext he44
          replace hE := hE.trans (Exc.of_ext he44)
          refine RA.take 0 rfl (by kernel_rfl) rfl rfl (by decide) (fun _ => r_move_as (v := (.func (.func kc) #[] cl.toArray)) ((hoff39 4 rfl).trans ((hF36 4).trans (hF0 4)))) ?_
          refine RA.take 1 rfl (by kernel_rfl) rfl rfl (by decide) (fun _ => r_move_as (v := (.slice (some ⟨b, o, none⟩) (n) (cap))) ((hoff39 0 rfl).trans ((hF36 0).trans (hF0 0)))) ?_
          refine RA.take 2 rfl (by kernel_rfl) rfl rfl (by decide) (fun _ => r_move_as (v := (.int .i64 (((m : Nat) : Int)))) ((hoff39 2 rfl).trans ((hF36 2).trans (hF0 2)))) ?_
          refine RA.take 3 rfl (by kernel_rfl) rfl rfl (by decide) (fun _ => r_indexAddr (i := ((m : Nat) : Int)) Try.underlying26 ty3 rfl rfl (by omega) (by omega)) ?_
          have hc45 := ha.cell (i := ((m : Nat) : Int)) (m) (by omega) (by omega)
          rw [show (LA ++ L ++ R ++ LB).getD (m) default = R.getD 0 default from (getD_seg (LA ++ L) R LB _ _ (by simp; omega) (by omega))] at hc45
          refine RA.rd 4 rfl (by kernel_rfl) rfl rfl rfl (by decide) (Ext.refl _) (fun u hu => r_load (v := (.int .i64 (R.getD 0 default))) Try.underlying3 ag3 rfl (cell_ext hu hc45)) ?_
          refine RA.take 5 rfl (by kernel_rfl) rfl rfl (by decide) (fun _ => r_move_as (v := (.slice (some ⟨b, o, none⟩) (n) (cap))) ((hoff39 0 rfl).trans ((hF36 0).trans (hF0 0)))) ?_
          refine RA.take 6 rfl (by kernel_rfl) rfl rfl (by decide) (fun _ => r_move_as (v := (.int .i64 ((((i + j) / 2 : Nat) : Int)))) rfl) ?_
          refine RA.take 7 rfl (by kernel_rfl) rfl rfl (by decide) (fun _ => r_indexAddr (i := (((i + j) / 2 : Nat) : Int)) Try.underlying26 ty3 rfl rfl (by omega) (by omega)) ?_
          have hc46 := ha.cell (i := (((i + j) / 2 : Nat) : Int)) ((i + j) / 2) (by omega) (by omega)
          rw [show (LA ++ L ++ R ++ LB).getD ((i + j) / 2) default = L.getD ((i + j) / 2 - a) default from (by rw [List.append_assoc (LA ++ L)]; exact getD_seg LA L (R ++ LB) _ _ (by omega) (by omega))] at hc46
          refine RA.rd 8 rfl (by kernel_rfl) rfl rfl rfl (by decide) (Ext.refl _) (fun u hu => r_load (v := (.int .i64 (L.getD ((i + j) / 2 - a) default))) Try.underlying3 ag3 rfl (cell_ext hu hc46)) ?_
          refine RA.all [9] (by kernel_rfl) rfl ?_
          refine RS.call rfl rfl rfl (by decide) (r_callv (vl := [(.int .i64 (R.getD 0 default)), (.int .i64 (L.getD ((i + j) / 2 - a) default))]) (cl := cl) rfl hent rfl) (hcmp _ (hw0.trans hE) (R.getD 0 default) (L.getD ((i + j) / 2 - a) default) (hok _ (List.mem_append.2 (.inr (getD_mem _ _ (by omega))))) (hok _ (List.mem_append.2 (.inl (getD_mem _ _ (by omega)))))) ?_ RS.nil
          rintro _ w47 ⟨rfl, he48⟩
          refine ⟨.inr (.inr he48), RA.more (S' := fun u => Ext _ u) (fun u hu => Ext.trans he48 hu) ?_⟩
          replace ha := ha.ext he48
          replace hE := hE.trans (Exc.of_ext he48)
          refine RA.take 10 rfl (by kernel_rfl) rfl rfl (by decide) (fun _ => r_lss (k := .i64) (a := cmpI (key (R.getD 0 default)) (key (L.getD ((i + j) / 2 - a) default))) (b := 0) rfl rfl) ?_
          refine RA.take 11 rfl (by kernel_rfl) rfl rfl (by decide) (fun _ => r_not rfl) ?_
          refine RA.done (by kernel_rfl) ?_
          refine wcond (b := !(decide ((cmpI (key (R.getD 0 default)) (key (L.getD ((i + j) / 2 - a) default))) < 0))) rfl (fun hb49 => ?_) (fun hb49 => ?_)
          · have hb49p := hb49
            have hkey0 : ¬ cmpI (key (R.getD 0 default)) (key (L.getD ((i + j) / 2 - a) default)) < 0 := by simpa using hb49p
            have hkey : key (L.getD ((i + j) / 2 - a) default) ≤ key (R.getD 0 default) := key_ge (by unfold cmpI at hkey0; exact hkey0)
            refine wregion ?_
            refine RL.val rfl rfl (by decide) (r_move_as (v := (.int .i64 ((((i + j) / 2 : Nat) : Int)))) rfl) ?_
            refine RL.val rfl rfl (by decide) (r_add (k := .i64) (a := (((i + j) / 2 : Nat) : Int)) (b := 1) (c := (((i + j) / 2 + 1 : Nat) : Int)) rfl rfl ((wi64 (by omega)).trans (by omega))) ?_
            refine RL.val rfl rfl (by decide) (r_assign_as (v := (.int .i64 ((((i + j) / 2 + 1 : Nat) : Int)))) rfl) ?_
            refine RL.nil ?_
            refine ⟨((i + j) / 2 + 1, j), ⟨?_, ?_, ?_, ?_, ?_, ?_, ?_, ?_⟩, ?_⟩
            · exact (by repeat (first | exact hoff39 | refine Off.st ?_ (by decide) _))
            · first | rfl | exact int_eq (by omega) | exact bool_eq (by simp)
            · refine (hs41).trans ?_
              first | rfl | exact int_eq (by omega) | exact bool_eq (by simp)
            · omega
            · exact .inr (by rw [show (i + j) / 2 + 1 - 1 - a = (i + j) / 2 - a by omega]; exact hkey)
            · exact hhi
            · exact ha
            · exact hE
            · (try dsimp only)
              omega
          · have hb49p := hb49
            have hkey0 : cmpI (key (R.getD 0 default)) (key (L.getD ((i + j) / 2 - a) default)) < 0 := by simpa using hb49p
            have hkey : key (R.getD 0 default) < key (L.getD ((i + j) / 2 - a) default) := key_lt (by unfold cmpI at hkey0; exact hkey0)
            refine wregion ?_
            refine RL.val rfl rfl (by decide) (r_move_as (v := (.int .i64 ((((i + j) / 2 : Nat) : Int)))) rfl) ?_
            refine RL.val rfl rfl (by decide) (r_assign_as (v := (.int .i64 ((((i + j) / 2 : Nat) : Int)))) rfl) ?_
            refine RL.nil ?_
            refine ⟨(i, (i + j) / 2), ⟨?_, ?_, ?_, ?_, ?_, ?_, ?_, ?_⟩, ?_⟩
            · exact (by repeat (first | exact hoff39 | refine Off.st ?_ (by decide) _))
            · refine (hs40).trans ?_
              first | rfl | exact int_eq (by omega) | exact bool_eq (by simp)
            · first | rfl | exact int_eq (by omega) | exact bool_eq (by simp)
            · omega
            · exact hlo
            · exact .inr hkey
            · exact ha
            · exact hE
            · (try dsimp only)
              omega
        · have hb42p := hb42
          replace hb42p := of_decide_eq_false hb42p
          refine wexit ?_
          refine wseq ?_
          refine wseq ?_
          refine wregion ?_
          refine RL.val rfl rfl (by decide) (r_move_as (v := (.int .i64 (((m : Nat) : Int)))) ((hoff39 2 rfl).trans ((hF36 2).trans (hF0 2)))) ?_
          refine RL.val rfl rfl (by decide) (r_assign_as (v := (.int .i64 (((m : Nat) : Int)))) rfl) ?_
          refine RL.nil ?_
          refine wblock ?_
          refine wset fun F50 hF51 => ?_
          refine wloop (σ := List Int × List Int) (fun (s : List Int × List Int) fl wl => match s with | (U, V) => Off [17, 108, 109, 110, 111, 112, 113, 114, 115, 116, 117, 118, 119, 120, 121, 122, 123, 124, 125, 126, 127, 128] F50 fl ∧ fl 17 = (.int .i64 (((i + U.length : Nat) : Int))) ∧ (L.drop (i - a) = U ++ V) ∧ (Ar (gI .i64) wl b 3 o (LA ++ L.take (i - a) ++ U ++ R.getD 0 default :: V ++ LB) n) ∧ (Exc b w wl)) (fun (s : List Int × List Int) => match s with | (U, V) => U.length) (L.drop (i - a), []) ?_ ?_
          · exact ⟨Off.refl _ _, (hF51 17).trans ((int_eq (by simp; omega))), by simp, (one_right LA L R LB (i - a) (by omega) ▸ ha), hE⟩
          · clear ha hE
            rintro ⟨U, V⟩ f52 w53 ⟨hoff54, hs55, hUV, ha, hE⟩
            have hUVl : U.length + V.length = m - i := by have := congrArg List.length hUV; simp at this; omega
            refine wseq ?_
            refine wseq ?_
            refine wregion ?_
            refine RL.val rfl rfl (by decide) (r_move_as (v := (.int .i64 (((i + U.length : Nat) : Int)))) hs55) ?_
            refine RL.val rfl rfl (by decide) (r_move_as (v := (.int .i64 (((i : Nat) : Int)))) ((hoff54 14 rfl).trans ((hF51 14).trans hs40))) ?_
            refine RL.val rfl rfl (by decide) (r_gtr (k := .i64) (a := ((i + U.length : Nat) : Int)) (b := ((i : Nat) : Int)) rfl rfl) ?_
            refine RL.nil ?_
            refine wcond (b := decide (((i : Nat) : Int) < ((i + U.length : Nat) : Int))) rfl (fun hb56 => ?_) (fun hb56 => ?_)
            · have hb56p := hb56
              replace hb56p := of_decide_eq_true hb56p
              obtain ⟨U', z, hU⟩ := snoc_of U (by omega)
              have hUl : U.length = U'.length + 1 := by rw [hU]; simp
              refine wskip ?_
              refine wseq ?_
              refine wblock ?_
              refine wdraw mixed fun w57 he58 => ?_
              have he58z := he58.size
              replace ha := ha.ext he58
              replace hE := hE.trans (Exc.of_ext he58)
              refine RA.take 0 rfl (by kernel_rfl) rfl rfl (by decide) (fun _ => r_move_as (v := (.slice (some ⟨b, o, none⟩) (n) (cap))) ((hoff54 0 rfl).trans ((hF51 0).trans ((hoff39 0 rfl).trans ((hF36 0).trans (hF0 0)))))) ?_
              refine RA.take 1 rfl (by kernel_rfl) rfl rfl (by decide) (fun _ => r_move_as (v := (.int .i64 (((i + U.length : Nat) : Int)))) hs55) ?_
              refine RA.take 2 rfl (by kernel_rfl) rfl rfl (by decide) (fun _ => r_move_as (v := (.slice (some ⟨b, o, none⟩) (n) (cap))) ((hoff54 0 rfl).trans ((hF51 0).trans ((hoff39 0 rfl).trans ((hF36 0).trans (hF0 0)))))) ?_
              refine RA.take 3 rfl (by kernel_rfl) rfl rfl (by decide) (fun _ => r_move_as (v := (.int .i64 (((i + U.length : Nat) : Int)))) hs55) ?_
              refine RA.take 4 rfl (by kernel_rfl) rfl rfl (by decide) (fun _ => r_sub (k := .i64) (a := ((i + U.length : Nat) : Int)) (b := 1) (c := ((i + U.length - 1 : Nat) : Int)) rfl rfl ((wi64 (by omega)).trans (by omega))) ?_
              refine RA.take 5 rfl (by kernel_rfl) rfl rfl (by decide) (fun _ => r_move_as (v := (.slice (some ⟨b, o, none⟩) (n) (cap))) ((hoff54 0 rfl).trans ((hF51 0).trans ((hoff39 0 rfl).trans ((hF36 0).trans (hF0 0)))))) ?_
              refine RA.take 6 rfl (by kernel_rfl) rfl rfl (by decide) (fun _ => r_move_as (v := (.int .i64 (((i + U.length : Nat) : Int)))) hs55) ?_
              refine RA.take 7 rfl (by kernel_rfl) rfl rfl (by decide) (fun _ => r_sub (k := .i64) (a := ((i + U.length : Nat) : Int)) (b := 1) (c := ((i + U.length - 1 : Nat) : Int)) rfl rfl ((wi64 (by omega)).trans (by omega))) ?_
              refine RA.take 8 rfl (by kernel_rfl) rfl rfl (by decide) (fun _ => r_indexAddr (i := ((i + U.length - 1 : Nat) : Int)) Try.underlying26 ty3 rfl rfl (by omega) (by omega)) ?_
              have hc59 := ha.cell (i := ((i + U.length - 1 : Nat) : Int)) (i + U.length - 1) (by omega) (by omega)
              rw [show (LA ++ L.take (i - a) ++ U ++ R.getD 0 default :: V ++ LB).getD (i + U.length - 1) default = z from (by rw [show (LA ++ L.take (i - a) ++ U ++ R.getD 0 default :: V ++ LB) = (LA ++ L.take (i - a) ++ U') ++ z :: (R.getD 0 default :: V ++ LB) from by rw [hU]; simp]; exact getD_mid _ _ _ _ (by simp; omega))] at hc59
              refine RA.rd 9 rfl (by kernel_rfl) rfl rfl rfl (by decide) (Ext.refl _) (fun u hu => r_load (v := (.int .i64 (z))) Try.underlying3 ag3 rfl (cell_ext hu hc59)) ?_
              refine RA.take 10 rfl (by kernel_rfl) rfl rfl (by decide) (fun _ => r_move_as (v := (.slice (some ⟨b, o, none⟩) (n) (cap))) ((hoff54 0 rfl).trans ((hF51 0).trans ((hoff39 0 rfl).trans ((hF36 0).trans (hF0 0)))))) ?_
              refine RA.take 11 rfl (by kernel_rfl) rfl rfl (by decide) (fun _ => r_move_as (v := (.int .i64 (((i + U.length : Nat) : Int)))) hs55) ?_
              refine RA.take 12 rfl (by kernel_rfl) rfl rfl (by decide) (fun _ => r_indexAddr (i := ((i + U.length : Nat) : Int)) Try.underlying26 ty3 rfl rfl (by omega) (by omega)) ?_
              have hc60 := ha.cell (i := ((i + U.length : Nat) : Int)) (i + U.length) (by omega) (by omega)
              rw [show (LA ++ L.take (i - a) ++ U ++ R.getD 0 default :: V ++ LB).getD (i + U.length) default = R.getD 0 default from (by rw [show (LA ++ L.take (i - a) ++ U ++ R.getD 0 default :: V ++ LB) = (LA ++ L.take (i - a) ++ U) ++ R.getD 0 default :: (V ++ LB) from by simp]; exact getD_mid _ _ _ _ (by simp; omega))] at hc60
              refine RA.rd 13 rfl (by kernel_rfl) rfl rfl rfl (by decide) (Ext.refl _) (fun u hu => r_load (v := (.int .i64 (R.getD 0 default))) Try.underlying3 ag3 rfl (cell_ext hu hc60)) ?_
              refine RA.take 14 rfl (by kernel_rfl) rfl rfl (by decide) (fun _ => r_indexAddr (i := ((i + U.length : Nat) : Int)) Try.underlying26 ty3 rfl rfl (by omega) (by omega)) ?_
              refine RA.all [15] (by kernel_rfl) rfl ?_
              refine RS.runs rfl rfl rfl (h_set (g := (gI .i64)) (vv := (.int .i64 (z))) (u := z) (i := ((i + U.length : Nat) : Int)) ty3 rfl rfl rfl rfl rfl ha (i + U.length) (by omega) (by omega)) ?_ RS.nil
              rintro w61 ⟨ha62, hx63⟩
              refine ⟨.inr (.inl (by kernel_rfl)), ?_⟩
              have hx63z := hx63.size
              replace hE := hE.trans hx63
              replace ha := ha62
              refine RA.take 16 rfl (by kernel_rfl) rfl rfl (by decide) (fun _ => r_indexAddr (i := ((i + U.length - 1 : Nat) : Int)) Try.underlying26 ty3 rfl rfl (by omega) (by omega)) ?_
              refine RA.all [17] (by kernel_rfl) rfl ?_
              refine RS.runs rfl rfl rfl (h_set (g := (gI .i64)) (vv := (.int .i64 (R.getD 0 default))) (u := R.getD 0 default) (i := ((i + U.length - 1 : Nat) : Int)) ty3 rfl rfl rfl rfl rfl ha (i + U.length - 1) (by omega) (by omega)) ?_ RS.nil
              rintro w64 ⟨ha65, hx66⟩
              refine ⟨.inr (.inl (by kernel_rfl)), ?_⟩
              have hx66z := hx66.size
              replace hE := hE.trans hx66
              replace ha := ha65
              refine RA.done (by kernel_rfl) ?_
              refine wregion ?_
              refine RL.val rfl rfl (by decide) (r_move_as (v := (.int .i64 (((i + U.length : Nat) : Int)))) hs55) ?_
              refine RL.val rfl rfl (by decide) (r_sub (k := .i64) (a := ((i + U.length : Nat) : Int)) (b := 1) (c := ((i + U.length : Nat) : Int) - 1) rfl rfl (wi64 (by omega))) ?_
              refine RL.val rfl rfl (by decide) (r_assign_as (v := (.int .i64 (((i + U.length : Nat) : Int) - 1))) rfl) ?_
              refine RL.nil ?_
              refine ⟨(U', z :: V), ⟨?_, ?_, ?_, ?_, ?_⟩, ?_⟩
              · exact (by repeat (first | exact hoff54 | refine Off.st ?_ (by decide) _ | refine Off.via hoff39 (by decide) ?_ | refine Off.eq hF36 ?_))
              · exact int_eq (by omega)
              · rw [hUV, hU]; simp
              · rw [show (LA ++ L.take (i - a) ++ U ++ R.getD 0 default :: V ++ LB) = (LA ++ L.take (i - a) ++ U') ++ z :: R.getD 0 default :: (V ++ LB) from by rw [hU]; simp, set2 _ _ _ _ _ _ _ _ (by simp; omega) (by simp; omega)] at ha; simpa using ha
              · exact hE
              · (try dsimp only)
                omega
            · have hb56p := hb56
              replace hb56p := of_decide_eq_false hb56p
              refine wexit ?_
              refine wret ?_
              refine ⟨[], trivial, ?_⟩
              have hU0 : U = [] := List.eq_nil_of_length_eq_zero (by omega)
              obtain ⟨q1, q2⟩ := merge_right (y := R.getD 0 default) (q := i - a) hsL (by omega) (by rcases hlo with h | h; exact .inl (by omega); exact .inr (by rw [show i - a - 1 = i - 1 - a by omega]; exact h)) (by rcases hhi with h | h; exact .inl (by omega); exact .inr (by rw [show i = j by omega]; exact h))
              refine ⟨rfl, ⟨_, ?_, q1, ?_⟩, hE⟩
              · rw [hUV, hU0]; rw [hU0] at ha; simpa using ha
              · rw [list_one R (by omega)]; exact q2
    · have hb34p := hb34
      replace hb34p := of_decide_eq_false hb34p
      refine wskip ?_
      refine wseq ?_
      refine wregion ?_
      refine RL.val rfl rfl (by decide) (r_move_as (v := (.int .i64 (((a : Nat) : Int)))) (hF0 1)) ?_
      refine RL.val rfl rfl (by decide) (r_move_as (v := (.int .i64 (((c : Nat) : Int)))) (hF0 3)) ?_
      refine RL.val rfl rfl (by decide) (r_add (k := .i64) (a := ((a : Nat) : Int)) (b := ((c : Nat) : Int)) (c := ((a + c : Nat) : Int)) rfl rfl ((wi64 (by omega)).trans (by omega))) ?_
      refine RL.val rfl rfl (by decide) (r_conv (k := .u64) (a := ((a + c : Nat) : Int)) (c := ((a + c : Nat) : Int)) Try.underlying3 Try.underlying77 rfl (wu64 (by omega))) ?_
      refine RL.val rfl rfl (by decide) (r_shr (k := .u64) (a := ((a + c : Nat) : Int)) (b := 1) (c := (((a + c) / 2 : Nat) : Int)) rfl rfl (by decide) (shr_one _)) ?_
      refine RL.val rfl rfl (by decide) (r_conv (k := .i64) (a := (((a + c) / 2 : Nat) : Int)) (c := (((a + c) / 2 : Nat) : Int)) Try.underlying77 Try.underlying3 rfl (wi64 (by omega))) ?_
      refine RL.val rfl rfl (by decide) (r_assign_as (v := (.int .i64 ((((a + c) / 2 : Nat) : Int)))) rfl) ?_
      refine RL.nil ?_
      refine wseq ?_
      refine wregion ?_
      refine RL.val rfl rfl (by decide) (r_move_as (v := (.int .i64 ((((a + c) / 2 : Nat) : Int)))) rfl) ?_
      refine RL.val rfl rfl (by decide) (r_move_as (v := (.int .i64 (((m : Nat) : Int)))) (hF0 2)) ?_
      refine RL.val rfl rfl (by decide) (r_add (k := .i64) (a := (((a + c) / 2 : Nat) : Int)) (b := ((m : Nat) : Int)) (c := (((a + c) / 2 + m : Nat) : Int)) rfl rfl ((wi64 (by omega)).trans (by omega))) ?_
      refine RL.val rfl rfl (by decide) (r_assign_as (v := (.int .i64 ((((a + c) / 2 + m : Nat) : Int)))) rfl) ?_
      refine RL.nil ?_
      refine wseq ?_
      refine wregion ?_
      refine RL.val rfl rfl (by decide) (r_assign_as (v := (.int .i64 (0))) rfl) ?_
      refine RL.val rfl rfl (by decide) (r_assign_as (v := (.int .i64 (0))) rfl) ?_
      refine RL.nil ?_
      refine wset fun F67 hF68 => ?_
      refine wcut (fun fl wl => ∃ lo : Nat, ∃ hi : Nat, Off [20, 21, 138, 139, 140, 141, 142, 143, 144, 145, 146] F67 fl ∧ fl 20 = (.int .i64 (((lo : Nat) : Int))) ∧ fl 21 = (.int .i64 (((hi : Nat) : Int))) ∧ (a ≤ lo ∧ lo ≤ hi ∧ hi ≤ m ∧ hi ≤ (a + c) / 2 ∧ (a + c) / 2 + m ≤ c + lo ∧ (lo = a ∨ (a + c) / 2 + m = c + lo) ∧ (hi = m ∨ hi = (a + c) / 2)) ∧ (Ar (gI .i64) wl b 3 o (LA ++ L ++ R ++ LB) n) ∧ (Exc b w wl)) ?_ ?_
      · have hoff69 := Off.refl [20, 21, 138, 139, 140, 141, 142, 143, 144, 145, 146] F67
        refine wseq ?_
        refine wregion ?_
        refine RL.val rfl rfl (by decide) (r_move_as (v := (.int .i64 (((m : Nat) : Int)))) ((hF68 2).trans (hF0 2))) ?_
        refine RL.val rfl rfl (by decide) (r_move_as (v := (.int .i64 ((((a + c) / 2 : Nat) : Int)))) (hF68 18)) ?_
        refine RL.val rfl rfl (by decide) (r_gtr (k := .i64) (a := ((m : Nat) : Int)) (b := (((a + c) / 2 : Nat) : Int)) rfl rfl) ?_
        refine RL.nil ?_
        refine wcond (b := decide ((((a + c) / 2 : Nat) : Int) < ((m : Nat) : Int))) rfl (fun hb70 => ?_) (fun hb70 => ?_)
        · have hb70p := hb70
          replace hb70p := of_decide_eq_true hb70p
          refine wseq ?_
          refine wregion ?_
          refine RL.val rfl rfl (by decide) (r_move_as (v := (.int .i64 ((((a + c) / 2 + m : Nat) : Int)))) (hF68 19)) ?_
          refine RL.val rfl rfl (by decide) (r_move_as (v := (.int .i64 (((c : Nat) : Int)))) ((hF68 3).trans (hF0 3))) ?_
          refine RL.val rfl rfl (by decide) (r_sub (k := .i64) (a := (((a + c) / 2 + m : Nat) : Int)) (b := ((c : Nat) : Int)) (c := (((a + c) / 2 + m - c : Nat) : Int)) rfl rfl ((wi64 (by omega)).trans (by omega))) ?_
          refine RL.val rfl rfl (by decide) (r_assign_as (v := (.int .i64 ((((a + c) / 2 + m - c : Nat) : Int)))) rfl) ?_
          refine RL.nil ?_
          refine wregion ?_
          refine RL.val rfl rfl (by decide) (r_move_as (v := (.int .i64 ((((a + c) / 2 : Nat) : Int)))) (hF68 18)) ?_
          refine RL.val rfl rfl (by decide) (r_assign_as (v := (.int .i64 ((((a + c) / 2 : Nat) : Int)))) rfl) ?_
          refine RL.nil ?_
          refine ⟨(a + c) / 2 + m - c, (a + c) / 2, ?_, ?_, ?_, ?_, ?_, ?_⟩
          · exact (by repeat (first | exact hoff69 | refine Off.st ?_ (by decide) _))
          · first | rfl | exact int_eq (by omega) | exact bool_eq (by simp)
          · first | rfl | exact int_eq (by omega) | exact bool_eq (by simp)
          · omega
          · exact ha
          · exact hE
        · have hb70p := hb70
          replace hb70p := of_decide_eq_false hb70p
          refine wseq ?_
          refine wregion ?_
          refine RL.val rfl rfl (by decide) (r_move_as (v := (.int .i64 (((a : Nat) : Int)))) ((hF68 1).trans (hF0 1))) ?_
          refine RL.val rfl rfl (by decide) (r_assign_as (v := (.int .i64 (((a : Nat) : Int)))) rfl) ?_
          refine RL.nil ?_
          refine wregion ?_
          refine RL.val rfl rfl (by decide) (r_move_as (v := (.int .i64 (((m : Nat) : Int)))) ((hF68 2).trans (hF0 2))) ?_
          refine RL.val rfl rfl (by decide) (r_assign_as (v := (.int .i64 (((m : Nat) : Int)))) rfl) ?_
          refine RL.nil ?_
          refine ⟨a, m, ?_, ?_, ?_, ?_, ?_, ?_⟩
          · exact (by repeat (first | exact hoff69 | refine Off.st ?_ (by decide) _))
          · first | rfl | exact int_eq (by omega) | exact bool_eq (by simp)
          · first | rfl | exact int_eq (by omega) | exact bool_eq (by simp)
          · omega
          · exact ha
          · exact hE
      · clear ha hE
        rintro f71 w72 ⟨lo, hi, hoff73, hs74, hs75, hlh, ha, hE⟩
        refine wseq ?_
        refine wregion ?_
        refine RL.val rfl rfl (by decide) (r_move_as (v := (.int .i64 ((((a + c) / 2 + m : Nat) : Int)))) ((hoff73 19 rfl).trans (hF68 19))) ?_
        refine RL.val rfl rfl (by decide) (r_sub (k := .i64) (a := (((a + c) / 2 + m : Nat) : Int)) (b := 1) (c := (((a + c) / 2 + m - 1 : Nat) : Int)) rfl rfl ((wi64 (by omega)).trans (by omega))) ?_
        refine RL.val rfl rfl (by decide) (r_assign_as (v := (.int .i64 ((((a + c) / 2 + m - 1 : Nat) : Int)))) rfl) ?_
        refine RL.nil ?_
        refine wseq ?_
        refine wblock ?_
        refine wset fun F76 hF77 => ?_
        refine wloop (σ := Nat × Nat) (fun (s : Nat × Nat) fl wl => match s with | (s, r) => Off [20, 21, 23, 149, 150, 151, 152, 153, 154, 155, 156, 157, 158, 159, 160, 161, 162, 163, 164, 165, 166, 167, 168, 169, 170, 171, 172, 173, 174] F76 fl ∧ fl 20 = (.int .i64 (((s : Nat) : Int))) ∧ fl 21 = (.int .i64 (((r : Nat) : Int))) ∧ (lo ≤ s ∧ s ≤ r ∧ r ≤ hi) ∧ (s = lo ∨ key (L.getD (s - 1 - a) default) ≤ key (R.getD ((a + c) / 2 - s) default)) ∧ (r = hi ∨ key (R.getD ((a + c) / 2 - 1 - r) default) < key (L.getD (r - a) default)) ∧ (Ar (gI .i64) wl b 3 o (LA ++ L ++ R ++ LB) n) ∧ (Exc b w wl)) (fun (s : Nat × Nat) => match s with | (s, r) => r - s) (lo, hi) ?_ ?_
        · exact ⟨Off.refl _ _, (hF77 20).trans ((hs74).trans rfl), (hF77 21).trans ((hs75).trans rfl), by omega, .inl rfl, .inl rfl, ha, hE⟩
        · clear ha hE
          rintro ⟨s, r⟩ f78 w79 ⟨hoff80, hs81, hs82, hsr, hlo2, hhi2, ha, hE⟩
          refine wseq ?_
          refine wseq ?_
          refine wregion ?_
          refine RL.val rfl rfl (by decide) (r_move_as (v := (.int .i64 (((s : Nat) : Int)))) hs81) ?_
          refine RL.val rfl rfl (by decide) (r_move_as (v := (.int .i64 (((r : Nat) : Int)))) hs82) ?_
          refine RL.val rfl rfl (by decide) (r_lss (k := .i64) (a := ((s : Nat) : Int)) (b := ((r : Nat) : Int)) rfl rfl) ?_
          refine RL.nil ?_
          refine wcond (b := decide (((s : Nat) : Int) < ((r : Nat) : Int))) rfl (fun hb83 => ?_) (fun hb83 => ?_)
          · have hb83p := hb83
            replace hb83p := of_decide_eq_true hb83p
            refine wskip ?_
            refine wblock ?_
            refine wseq ?_
            refine wregion ?_
            refine RL.val rfl rfl (by decide) (r_move_as (v := (.int .i64 (((s : Nat) : Int)))) hs81) ?_
            refine RL.val rfl rfl (by decide) (r_move_as (v := (.int .i64 (((r : Nat) : Int)))) hs82) ?_
            refine RL.val rfl rfl (by decide) (r_add (k := .i64) (a := ((s : Nat) : Int)) (b := ((r : Nat) : Int)) (c := ((s + r : Nat) : Int)) rfl rfl ((wi64 (by omega)).trans (by omega))) ?_
            refine RL.val rfl rfl (by decide) (r_conv (k := .u64) (a := ((s + r : Nat) : Int)) (c := ((s + r : Nat) : Int)) Try.underlying3 Try.underlying77 rfl (wu64 (by omega))) ?_
            refine RL.val rfl rfl (by decide) (r_shr (k := .u64) (a := ((s + r : Nat) : Int)) (b := 1) (c := (((s + r) / 2 : Nat) : Int)) rfl rfl (by decide) (shr_one _)) ?_
            refine RL.val rfl rfl (by decide) (r_conv (k := .i64) (a := (((s + r) / 2 : Nat) : Int)) (c := (((s + r) / 2 : Nat) : Int)) Try.underlying77 Try.underlying3 rfl (wi64 (by omega))) ?_
            refine RL.val rfl rfl (by decide) (r_assign_as (v := (.int .i64 ((((s + r) / 2 : Nat) : Int)))) rfl) ?_
            refine RL.nil ?_
            refine wseq ?_
            refine wdraw mixed fun w84 he85 => ?_
            have he85z := he85.size
            replace ha := ha.ext he85
            replace hE := hE.trans (Exc.of_ext he85)
            refine RA.take 0 rfl (by kernel_rfl) rfl rfl (by decide) (fun _ => r_move_as (v := (.func (.func kc) #[] cl.toArray)) ((hoff80 4 rfl).trans ((hF77 4).trans ((hoff73 4 rfl).trans ((hF68 4).trans (hF0 4)))))) ?_
            refine RA.take 1 rfl (by kernel_rfl) rfl rfl (by decide) (fun _ => r_move_as (v := (.slice (some ⟨b, o, none⟩) (n) (cap))) ((hoff80 0 rfl).trans ((hF77 0).trans ((hoff73 0 rfl).trans ((hF68 0).trans (hF0 0)))))) ?_
            refine RA.take 2 rfl (by kernel_rfl) rfl rfl (by decide) (fun _ => r_move_as (v := (.int .i64 ((((a + c) / 2 + m - 1 : Nat) : Int)))) ((hoff80 22 rfl).trans (hF77 22))) ?_
            refine RA.take 3 rfl (by kernel_rfl) rfl rfl (by decide) (fun _ => r_move_as (v := (.int .i64 ((((s + r) / 2 : Nat) : Int)))) rfl) ?_
            refine RA.take 4 rfl (by kernel_rfl) rfl rfl (by decide) (fun _ => r_sub (k := .i64) (a := (((a + c) / 2 + m - 1 : Nat) : Int)) (b := (((s + r) / 2 : Nat) : Int)) (c := (((a + c) / 2 + m - 1 - (s + r) / 2 : Nat) : Int)) rfl rfl ((wi64 (by omega)).trans (by omega))) ?_
            refine RA.take 5 rfl (by kernel_rfl) rfl rfl (by decide) (fun _ => r_indexAddr (i := (((a + c) / 2 + m - 1 - (s + r) / 2 : Nat) : Int)) Try.underlying26 ty3 rfl rfl (by omega) (by omega)) ?_
            have hc86 := ha.cell (i := (((a + c) / 2 + m - 1 - (s + r) / 2 : Nat) : Int)) ((a + c) / 2 + m - 1 - (s + r) / 2) (by omega) (by omega)
            rw [show (LA ++ L ++ R ++ LB).getD ((a + c) / 2 + m - 1 - (s + r) / 2) default = R.getD ((a + c) / 2 - 1 - (s + r) / 2) default from (getD_seg (LA ++ L) R LB _ _ (by simp; omega) (by omega))] at hc86
            refine RA.rd 6 rfl (by kernel_rfl) rfl rfl rfl (by decide) (Ext.refl _) (fun u hu => r_load (v := (.int .i64 (R.getD ((a + c) / 2 - 1 - (s + r) / 2) default))) Try.underlying3 ag3 rfl (cell_ext hu hc86)) ?_
            refine RA.take 7 rfl (by kernel_rfl) rfl rfl (by decide) (fun _ => r_move_as (v := (.slice (some ⟨b, o, none⟩) (n) (cap))) ((hoff80 0 rfl).trans ((hF77 0).trans ((hoff73 0 rfl).trans ((hF68 0).trans (hF0 0)))))) ?_
            refine RA.take 8 rfl (by kernel_rfl) rfl rfl (by decide) (fun _ => r_move_as (v := (.int .i64 ((((s + r) / 2 : Nat) : Int)))) rfl) ?_
            refine RA.take 9 rfl (by kernel_rfl) rfl rfl (by decide) (fun _ => r_indexAddr (i := (((s + r) / 2 : Nat) : Int)) Try.underlying26 ty3 rfl rfl (by omega) (by omega)) ?_
            have hc87 := ha.cell (i := (((s + r) / 2 : Nat) : Int)) ((s + r) / 2) (by omega) (by omega)
            rw [show (LA ++ L ++ R ++ LB).getD ((s + r) / 2) default = L.getD ((s + r) / 2 - a) default from (by rw [List.append_assoc (LA ++ L)]; exact getD_seg LA L (R ++ LB) _ _ (by omega) (by omega))] at hc87
            refine RA.rd 10 rfl (by kernel_rfl) rfl rfl rfl (by decide) (Ext.refl _) (fun u hu => r_load (v := (.int .i64 (L.getD ((s + r) / 2 - a) default))) Try.underlying3 ag3 rfl (cell_ext hu hc87)) ?_
            refine RA.all [11] (by kernel_rfl) rfl ?_
            refine RS.call rfl rfl rfl (by decide) (r_callv (vl := [(.int .i64 (R.getD ((a + c) / 2 - 1 - (s + r) / 2) default)), (.int .i64 (L.getD ((s + r) / 2 - a) default))]) (cl := cl) rfl hent rfl) (hcmp _ (hw0.trans hE) (R.getD ((a + c) / 2 - 1 - (s + r) / 2) default) (L.getD ((s + r) / 2 - a) default) (hok _ (List.mem_append.2 (.inr (getD_mem _ _ (by omega))))) (hok _ (List.mem_append.2 (.inl (getD_mem _ _ (by omega)))))) ?_ RS.nil
            rintro _ w88 ⟨rfl, he89⟩
            refine ⟨.inr (.inr he89), RA.more (S' := fun u => Ext _ u) (fun u hu => Ext.trans he89 hu) ?_⟩
            replace ha := ha.ext he89
            replace hE := hE.trans (Exc.of_ext he89)
            refine RA.take 12 rfl (by kernel_rfl) rfl rfl (by decide) (fun _ => r_lss (k := .i64) (a := cmpI (key (R.getD ((a + c) / 2 - 1 - (s + r) / 2) default)) (key (L.getD ((s + r) / 2 - a) default))) (b := 0) rfl rfl) ?_
            refine RA.take 13 rfl (by kernel_rfl) rfl rfl (by decide) (fun _ => r_not rfl) ?_
            refine RA.done (by kernel_rfl) ?_
            refine wcond (b := !(decide ((cmpI (key (R.getD ((a + c) / 2 - 1 - (s + r) / 2) default)) (key (L.getD ((s + r) / 2 - a) default))) < 0))) rfl (fun hb90 => ?_) (fun hb90 => ?_)
            · have hb90p := hb90
              have hkey0 : ¬ cmpI (key (R.getD ((a + c) / 2 - 1 - (s + r) / 2) default)) (key (L.getD ((s + r) / 2 - a) default)) < 0 := by simpa using hb90p
              have hkey : key (L.getD ((s + r) / 2 - a) default) ≤ key (R.getD ((a + c) / 2 - 1 - (s + r) / 2) default) := key_ge (by unfold cmpI at hkey0; exact hkey0)
              refine wregion ?_
              refine RL.val rfl rfl (by decide) (r_move_as (v := (.int .i64 ((((s + r) / 2 : Nat) : Int)))) rfl) ?_
              refine RL.val rfl rfl (by decide) (r_add (k := .i64) (a := (((s + r) / 2 : Nat) : Int)) (b := 1) (c := (((s + r) / 2 + 1 : Nat) : Int)) rfl rfl ((wi64 (by omega)).trans (by omega))) ?_
              refine RL.val rfl rfl (by decide) (r_assign_as (v := (.int .i64 ((((s + r) / 2 + 1 : Nat) : Int)))) rfl) ?_
              refine RL.nil ?_
              refine ⟨((s + r) / 2 + 1, r), ⟨?_, ?_, ?_, ?_, ?_, ?_, ?_, ?_⟩, ?_⟩
              · exact (by repeat (first | exact hoff80 | refine Off.st ?_ (by decide) _ | refine Off.via hoff73 (by decide) ?_ | refine Off.eq hF68 ?_))
              · first | rfl | exact int_eq (by omega) | exact bool_eq (by simp)
              · refine (hs82).trans ?_
                first | rfl | exact int_eq (by omega) | exact bool_eq (by simp)
              · omega
              · exact .inr (by rw [show (s + r) / 2 + 1 - 1 - a = (s + r) / 2 - a by omega, show (a + c) / 2 - ((s + r) / 2 + 1) = (a + c) / 2 - 1 - (s + r) / 2 by omega]; exact hkey)
              · exact hhi2
              · exact ha
              · exact hE
              · (try dsimp only)
                omega
            · have hb90p := hb90
              have hkey0 : cmpI (key (R.getD ((a + c) / 2 - 1 - (s + r) / 2) default)) (key (L.getD ((s + r) / 2 - a) default)) < 0 := by simpa using hb90p
              have hkey : key (R.getD ((a + c) / 2 - 1 - (s + r) / 2) default) < key (L.getD ((s + r) / 2 - a) default) := key_lt (by unfold cmpI at hkey0; exact hkey0)
              refine wregion ?_
              refine RL.val rfl rfl (by decide) (r_move_as (v := (.int .i64 ((((s + r) / 2 : Nat) : Int)))) rfl) ?_
              refine RL.val rfl rfl (by decide) (r_assign_as (v := (.int .i64 ((((s + r) / 2 : Nat) : Int)))) rfl) ?_
              refine RL.nil ?_
              refine ⟨(s, (s + r) / 2), ⟨?_, ?_, ?_, ?_, ?_, ?_, ?_, ?_⟩, ?_⟩
              · exact (by repeat (first | exact hoff80 | refine Off.st ?_ (by decide) _ | refine Off.via hoff73 (by decide) ?_ | refine Off.eq hF68 ?_))
              · refine (hs81).trans ?_
                first | rfl | exact int_eq (by omega) | exact bool_eq (by simp)
              · first | rfl | exact int_eq (by omega) | exact bool_eq (by simp)
              · omega
              · exact hlo2
              · exact .inr hkey
              · exact ha
              · exact hE
              · (try dsimp only)
                omega
          · have hb83p := hb83
            replace hb83p := of_decide_eq_false hb83p
            refine wexit ?_
            refine wseq ?_
            refine wregion ?_
            refine RL.val rfl rfl (by decide) (r_move_as (v := (.int .i64 ((((a + c) / 2 + m : Nat) : Int)))) ((hoff80 19 rfl).trans ((hF77 19).trans ((hoff73 19 rfl).trans (hF68 19))))) ?_
            refine RL.val rfl rfl (by decide) (r_move_as (v := (.int .i64 (((s : Nat) : Int)))) hs81) ?_
            refine RL.val rfl rfl (by decide) (r_sub (k := .i64) (a := (((a + c) / 2 + m : Nat) : Int)) (b := ((s : Nat) : Int)) (c := (((a + c) / 2 + m - s : Nat) : Int)) rfl rfl ((wi64 (by omega)).trans (by omega))) ?_
            refine RL.val rfl rfl (by decide) (r_assign_as (v := (.int .i64 ((((a + c) / 2 + m - s : Nat) : Int)))) rfl) ?_
            refine RL.nil ?_
            refine wset fun F91 hF92 => ?_
            refine wcut (fun fl wl => Off [178, 179, 180, 181, 182, 183, 184, 185, 186, 187, 188, 189, 190, 191] F91 fl ∧ (Ar (gI .i64) wl b 3 o (LA ++ L.take (s - a) ++ R.take ((a + c) / 2 - s) ++ (L.drop (s - a) ++ R.drop ((a + c) / 2 - s) ++ LB)) n) ∧ (Exc b w wl)) ?_ ?_
            · have hoff93 := Off.refl [178, 179, 180, 181, 182, 183, 184, 185, 186, 187, 188, 189, 190, 191] F91
              refine wseq ?_
              refine wregion ?_
              refine RL.val rfl rfl (by decide) (r_move_as (v := (.int .i64 (((s : Nat) : Int)))) ((hF92 20).trans hs81)) ?_
              refine RL.val rfl rfl (by decide) (r_move_as (v := (.int .i64 (((m : Nat) : Int)))) ((hF92 2).trans ((hoff80 2 rfl).trans ((hF77 2).trans ((hoff73 2 rfl).trans ((hF68 2).trans (hF0 2))))))) ?_
              refine RL.val rfl rfl (by decide) (r_lss (k := .i64) (a := ((s : Nat) : Int)) (b := ((m : Nat) : Int)) rfl rfl) ?_
              refine RL.val rfl rfl (by decide) (r_move_as (v := (.bool (decide (((s : Nat) : Int) < ((m : Nat) : Int))))) rfl) ?_
              rcases Bool.eq_false_or_eq_true (decide (((s : Nat) : Int) < ((m : Nat) : Int))) with hb94 | hb94
              · have hb94p := hb94
                replace hb94p := of_decide_eq_true hb94p
                refine RL.gval rfl rfl (bool_eq hb94) rfl (by decide) (r_move_as (v := (.int .i64 (((m : Nat) : Int)))) ((hF92 2).trans ((hoff80 2 rfl).trans ((hF77 2).trans ((hoff73 2 rfl).trans ((hF68 2).trans (hF0 2))))))) ?_
                refine RL.gval rfl rfl (bool_eq hb94) rfl (by decide) (r_move_as (v := (.int .i64 ((((a + c) / 2 + m - s : Nat) : Int)))) (hF92 24)) ?_
                refine RL.gval rfl rfl (bool_eq hb94) rfl (by decide) (r_lss (k := .i64) (a := ((m : Nat) : Int)) (b := (((a + c) / 2 + m - s : Nat) : Int)) rfl rfl) ?_
                refine RL.val rfl rfl (by decide) (r_pick_t (v := (.bool (decide (((m : Nat) : Int) < (((a + c) / 2 + m - s : Nat) : Int))))) (bool_eq hb94) rfl) ?_
                refine RL.nil ?_
                refine wcond (b := decide (((m : Nat) : Int) < (((a + c) / 2 + m - s : Nat) : Int))) rfl (fun hb95 => ?_) (fun hb95 => ?_)
                · have hb95p := hb95
                  replace hb95p := of_decide_eq_true hb95p
                  refine wregion ?_
                  refine RL.val rfl rfl (by decide) (r_move_as (v := (.slice (some ⟨b, o, none⟩) (n) (cap))) ((hF92 0).trans ((hoff80 0 rfl).trans ((hF77 0).trans ((hoff73 0 rfl).trans ((hF68 0).trans (hF0 0))))))) ?_
                  refine RL.val rfl rfl (by decide) (r_move_as (v := (.int .i64 (((s : Nat) : Int)))) ((hF92 20).trans hs81)) ?_
                  refine RL.val rfl rfl (by decide) (r_move_as (v := (.int .i64 (((m : Nat) : Int)))) ((hF92 2).trans ((hoff80 2 rfl).trans ((hF77 2).trans ((hoff73 2 rfl).trans ((hF68 2).trans (hF0 2))))))) ?_
                  refine RL.val rfl rfl (by decide) (r_move_as (v := (.int .i64 ((((a + c) / 2 + m - s : Nat) : Int)))) (hF92 24)) ?_
                  refine RL.val rfl rfl (by decide) (r_move_as (v := (.func (.func kc) #[] cl.toArray)) ((hF92 4).trans ((hoff80 4 rfl).trans ((hF77 4).trans ((hoff73 4 rfl).trans ((hF68 4).trans (hF0 4))))))) ?_
                  refine RL.call rfl rfl (by decide) (r_call (vl := [(.slice (some ⟨b, o, none⟩) (n) (cap)), (.int .i64 (((s : Nat) : Int))), (.int .i64 (((m : Nat) : Int))), (.int .i64 ((((a + c) / 2 + m - s : Nat) : Int))), (.func (.func kc) #[] cl.toArray)]) ent51 rfl) (rotate_int (xs := (LA ++ L ++ R ++ LB)) (LA := LA ++ L.take (s - a)) (LU := L.drop (s - a)) (LV := R.take ((a + c) / 2 - s)) (LB := R.drop ((a + c) / 2 - s) ++ LB) ha hsz (yes_rot _ _ _ _ _ _) (by simp; omega) (by simp; omega) (by simp; omega) (by simp; omega) (by simp; omega)) ?_
                  rintro _ w96 ⟨rfl, ha97, hx98⟩
                  replace hE := hE.trans hx98
                  replace ha := ha97
                  refine RL.nil ?_
                  refine ⟨?_, ?_, ?_⟩
                  · exact (by repeat (first | exact hoff93 | refine Off.st ?_ (by decide) _ | refine Off.via hoff80 (by decide) ?_ | refine Off.eq hF77 ?_ | refine Off.via hoff73 (by decide) ?_ | refine Off.eq hF68 ?_))
                  · simpa [List.append_assoc] using ha
                  · exact hE
                · have hb95p := hb95
                  replace hb95p := of_decide_eq_false hb95p
                  refine wskip ?_
                  refine ⟨?_, ?_, ?_⟩
                  · exact (by repeat (first | exact hoff93 | refine Off.st ?_ (by decide) _ | refine Off.via hoff80 (by decide) ?_ | refine Off.eq hF77 ?_ | refine Off.via hoff73 (by decide) ?_ | refine Off.eq hF68 ?_))
                  · rw [← no_rot LA L R LB _ _ (by omega)]; exact ha
                  · exact hE
              · have hb94p := hb94
                replace hb94p := of_decide_eq_false hb94p
                refine RL.gno rfl rfl (bool_eq hb94) rfl (by decide) ?_
                refine RL.gno rfl rfl (bool_eq hb94) rfl (by decide) ?_
                refine RL.gno rfl rfl (bool_eq hb94) rfl (by decide) ?_
                refine RL.val rfl rfl (by decide) (r_pick_f (v := (.bool (false))) (bool_eq hb94) rfl) ?_
                refine RL.nil ?_
                refine wcond_f rfl ?_
                refine wskip ?_
                refine ⟨?_, ?_, ?_⟩
                · exact (by repeat (first | exact hoff93 | refine Off.st ?_ (by decide) _ | refine Off.via hoff80 (by decide) ?_ | refine Off.eq hF77 ?_ | refine Off.via hoff73 (by decide) ?_ | refine Off.eq hF68 ?_))
                · rw [← no_rot LA L R LB _ _ (by omega)]; exact ha
                · exact hE
            · clear ha hE
              rintro f99 w100 ⟨hoff101, ha, hE⟩
              refine wset fun F102 hF103 => ?_
              refine wcut (fun fl wl => ∃ M1 : List Int, Off [192, 193, 194, 195, 196, 197, 198, 199, 200, 201, 202, 203, 204, 205] F102 fl ∧ (Srt key M1 ∧ StE key (L.take (s - a) ++ R.take ((a + c) / 2 - s)) M1) ∧ (Ar (gI .i64) wl b 3 o (LA ++ M1 ++ L.drop (s - a) ++ R.drop ((a + c) / 2 - s) ++ LB) n) ∧ (Exc b w wl)) ?_ ?_
              · have hoff104 := Off.refl [192, 193, 194, 195, 196, 197, 198, 199, 200, 201, 202, 203, 204, 205] F102
                refine wseq ?_
                refine wregion ?_
                refine RL.val rfl rfl (by decide) (r_move_as (v := (.int .i64 (((a : Nat) : Int)))) ((hF103 1).trans ((hoff101 1 rfl).trans ((hF92 1).trans ((hoff80 1 rfl).trans ((hF77 1).trans ((hoff73 1 rfl).trans ((hF68 1).trans (hF0 1))))))))) ?_
                refine RL.val rfl rfl (by decide) (r_move_as (v := (.int .i64 (((s : Nat) : Int)))) ((hF103 20).trans ((hoff101 20 rfl).trans ((hF92 20).trans hs81)))) ?_
                refine RL.val rfl rfl (by decide) (r_lss (k := .i64) (a := ((a : Nat) : Int)) (b := ((s : Nat) : Int)) rfl rfl) ?_
                refine RL.val rfl rfl (by decide) (r_move_as (v := (.bool (decide (((a : Nat) : Int) < ((s : Nat) : Int))))) rfl) ?_
                rcases Bool.eq_false_or_eq_true (decide (((a : Nat) : Int) < ((s : Nat) : Int))) with hb105 | hb105
                · have hb105p := hb105
                  replace hb105p := of_decide_eq_true hb105p
                  refine RL.gval rfl rfl (bool_eq hb105) rfl (by decide) (r_move_as (v := (.int .i64 (((s : Nat) : Int)))) ((hF103 20).trans ((hoff101 20 rfl).trans ((hF92 20).trans hs81)))) ?_
                  refine RL.gval rfl rfl (bool_eq hb105) rfl (by decide) (r_move_as (v := (.int .i64 ((((a + c) / 2 : Nat) : Int)))) ((hF103 18).trans ((hoff101 18 rfl).trans ((hF92 18).trans ((hoff80 18 rfl).trans ((hF77 18).trans ((hoff73 18 rfl).trans (hF68 18)))))))) ?_
                  refine RL.gval rfl rfl (bool_eq hb105) rfl (by decide) (r_lss (k := .i64) (a := ((s : Nat) : Int)) (b := (((a + c) / 2 : Nat) : Int)) rfl rfl) ?_
                  refine RL.val rfl rfl (by decide) (r_pick_t (v := (.bool (decide (((s : Nat) : Int) < (((a + c) / 2 : Nat) : Int))))) (bool_eq hb105) rfl) ?_
                  refine RL.nil ?_
                  refine wcond (b := decide (((s : Nat) : Int) < (((a + c) / 2 : Nat) : Int))) rfl (fun hb106 => ?_) (fun hb106 => ?_)
                  · have hb106p := hb106
                    replace hb106p := of_decide_eq_true hb106p
                    refine wregion ?_
                    refine RL.val rfl rfl (by decide) (r_move_as (v := (.slice (some ⟨b, o, none⟩) (n) (cap))) ((hF103 0).trans ((hoff101 0 rfl).trans ((hF92 0).trans ((hoff80 0 rfl).trans ((hF77 0).trans ((hoff73 0 rfl).trans ((hF68 0).trans (hF0 0))))))))) ?_
                    refine RL.val rfl rfl (by decide) (r_move_as (v := (.int .i64 (((a : Nat) : Int)))) ((hF103 1).trans ((hoff101 1 rfl).trans ((hF92 1).trans ((hoff80 1 rfl).trans ((hF77 1).trans ((hoff73 1 rfl).trans ((hF68 1).trans (hF0 1))))))))) ?_
                    refine RL.val rfl rfl (by decide) (r_move_as (v := (.int .i64 (((s : Nat) : Int)))) ((hF103 20).trans ((hoff101 20 rfl).trans ((hF92 20).trans hs81)))) ?_
                    refine RL.val rfl rfl (by decide) (r_move_as (v := (.int .i64 ((((a + c) / 2 : Nat) : Int)))) ((hF103 18).trans ((hoff101 18 rfl).trans ((hF92 18).trans ((hoff80 18 rfl).trans ((hF77 18).trans ((hoff73 18 rfl).trans (hF68 18)))))))) ?_
                    refine RL.val rfl rfl (by decide) (r_move_as (v := (.func (.func kc) #[] cl.toArray)) ((hF103 4).trans ((hoff101 4 rfl).trans ((hF92 4).trans ((hoff80 4 rfl).trans ((hF77 4).trans ((hoff73 4 rfl).trans ((hF68 4).trans (hF0 4))))))))) ?_
                    refine RL.call rfl rfl (by decide) (r_call (vl := [(.slice (some ⟨b, o, none⟩) (n) (cap)), (.int .i64 (((a : Nat) : Int))), (.int .i64 (((s : Nat) : Int))), (.int .i64 ((((a + c) / 2 : Nat) : Int))), (.func (.func kc) #[] cl.toArray)]) ent35 rfl) (ih _ _ _ LA (L.take (s - a)) (R.take ((a + c) / 2 - s)) (L.drop (s - a) ++ R.drop ((a + c) / 2 - s) ++ LB) _ ha (by omega) (by simp; omega) (by simp; omega) (by simp; omega) (by simp; omega) (hsL.take _) (hsR.take _) (fun x hx => hok x ((List.mem_append.1 hx).elim (fun h => List.mem_append.2 (.inl (List.mem_of_mem_take h))) (fun h => List.mem_append.2 (.inr (List.mem_of_mem_take h))))) (hw0.trans hE) (by omega)) ?_
                    rintro _ w107 ⟨rfl, ⟨M110, ha108, hs111, ht112⟩, hx109⟩
                    replace hE := hE.trans hx109
                    replace ha := ha108
                    refine RL.nil ?_
                    refine ⟨M110, ?_, ?_, ?_, ?_⟩
                    · exact (by repeat (first | exact hoff104 | refine Off.st ?_ (by decide) _ | refine Off.via hoff101 (by decide) ?_ | refine Off.eq hF92 ?_ | refine Off.via hoff80 (by decide) ?_ | refine Off.eq hF77 ?_ | refine Off.via hoff73 (by decide) ?_ | refine Off.eq hF68 ?_))
                    · exact ⟨hs111, ht112⟩
                    · simpa [List.append_assoc] using ha
                    · exact hE
                  · have hb106p := hb106
                    replace hb106p := of_decide_eq_false hb106p
                    refine wskip ?_
                    refine ⟨L.take (s - a) ++ R.take ((a + c) / 2 - s), ?_, ?_, ?_, ?_⟩
                    · exact (by repeat (first | exact hoff104 | refine Off.st ?_ (by decide) _ | refine Off.via hoff101 (by decide) ?_ | refine Off.eq hF92 ?_ | refine Off.via hoff80 (by decide) ?_ | refine Off.eq hF77 ?_ | refine Off.via hoff73 (by decide) ?_ | refine Off.eq hF68 ?_))
                    · exact ⟨no_mrg hsL hsR (by omega), StE.refl _ _⟩
                    · simpa [List.append_assoc] using ha
                    · exact hE
                · have hb105p := hb105
                  replace hb105p := of_decide_eq_false hb105p
                  refine RL.gno rfl rfl (bool_eq hb105) rfl (by decide) ?_
                  refine RL.gno rfl rfl (bool_eq hb105) rfl (by decide) ?_
                  refine RL.gno rfl rfl (bool_eq hb105) rfl (by decide) ?_
                  refine RL.val rfl rfl (by decide) (r_pick_f (v := (.bool (false))) (bool_eq hb105) rfl) ?_
                  refine RL.nil ?_
                  refine wcond_f rfl ?_
                  refine wskip ?_
                  refine ⟨L.take (s - a) ++ R.take ((a + c) / 2 - s), ?_, ?_, ?_, ?_⟩
                  · exact (by repeat (first | exact hoff104 | refine Off.st ?_ (by decide) _ | refine Off.via hoff101 (by decide) ?_ | refine Off.eq hF92 ?_ | refine Off.via hoff80 (by decide) ?_ | refine Off.eq hF77 ?_ | refine Off.via hoff73 (by decide) ?_ | refine Off.eq hF68 ?_))
                  · exact ⟨no_mrg hsL hsR (by omega), StE.refl _ _⟩
                  · simpa [List.append_assoc] using ha
                  · exact hE
              · clear ha hE
                rintro f113 w114 ⟨M1, hoff115, hM1, ha, hE⟩
                have hM1l : M1.length = (s - a) + ((a + c) / 2 - s) := by have := hM1.2.length; simp at this; omega
                refine wseq ?_
                refine wregion ?_
                refine RL.val rfl rfl (by decide) (r_move_as (v := (.int .i64 ((((a + c) / 2 : Nat) : Int)))) ((hoff115 18 rfl).trans ((hF103 18).trans ((hoff101 18 rfl).trans ((hF92 18).trans ((hoff80 18 rfl).trans ((hF77 18).trans ((hoff73 18 rfl).trans (hF68 18))))))))) ?_
                refine RL.val rfl rfl (by decide) (r_move_as (v := (.int .i64 ((((a + c) / 2 + m - s : Nat) : Int)))) ((hoff115 24 rfl).trans ((hF103 24).trans ((hoff101 24 rfl).trans (hF92 24))))) ?_
                refine RL.val rfl rfl (by decide) (r_lss (k := .i64) (a := (((a + c) / 2 : Nat) : Int)) (b := (((a + c) / 2 + m - s : Nat) : Int)) rfl rfl) ?_
                refine RL.val rfl rfl (by decide) (r_move_as (v := (.bool (decide ((((a + c) / 2 : Nat) : Int) < (((a + c) / 2 + m - s : Nat) : Int))))) rfl) ?_
                rcases Bool.eq_false_or_eq_true (decide ((((a + c) / 2 : Nat) : Int) < (((a + c) / 2 + m - s : Nat) : Int))) with hb116 | hb116
                · have hb116p := hb116
                  replace hb116p := of_decide_eq_true hb116p
                  refine RL.gval rfl rfl (bool_eq hb116) rfl (by decide) (r_move_as (v := (.int .i64 ((((a + c) / 2 + m - s : Nat) : Int)))) ((hoff115 24 rfl).trans ((hF103 24).trans ((hoff101 24 rfl).trans (hF92 24))))) ?_
                  refine RL.gval rfl rfl (bool_eq hb116) rfl (by decide) (r_move_as (v := (.int .i64 (((c : Nat) : Int)))) ((hoff115 3 rfl).trans ((hF103 3).trans ((hoff101 3 rfl).trans ((hF92 3).trans ((hoff80 3 rfl).trans ((hF77 3).trans ((hoff73 3 rfl).trans ((hF68 3).trans (hF0 3)))))))))) ?_
                  refine RL.gval rfl rfl (bool_eq hb116) rfl (by decide) (r_lss (k := .i64) (a := (((a + c) / 2 + m - s : Nat) : Int)) (b := ((c : Nat) : Int)) rfl rfl) ?_
                  refine RL.val rfl rfl (by decide) (r_pick_t (v := (.bool (decide ((((a + c) / 2 + m - s : Nat) : Int) < ((c : Nat) : Int))))) (bool_eq hb116) rfl) ?_
                  refine RL.nil ?_
                  refine wcond (b := decide ((((a + c) / 2 + m - s : Nat) : Int) < ((c : Nat) : Int))) rfl (fun hb117 => ?_) (fun hb117 => ?_)
                  · have hb117p := hb117
                    replace hb117p := of_decide_eq_true hb117p
                    refine wregion ?_
                    refine RL.val rfl rfl (by decide) (r_move_as (v := (.slice (some ⟨b, o, none⟩) (n) (cap))) ((hoff115 0 rfl).trans ((hF103 0).trans ((hoff101 0 rfl).trans ((hF92 0).trans ((hoff80 0 rfl).trans ((hF77 0).trans ((hoff73 0 rfl).trans ((hF68 0).trans (hF0 0)))))))))) ?_
                    refine RL.val rfl rfl (by decide) (r_move_as (v := (.int .i64 ((((a + c) / 2 : Nat) : Int)))) ((hoff115 18 rfl).trans ((hF103 18).trans ((hoff101 18 rfl).trans ((hF92 18).trans ((hoff80 18 rfl).trans ((hF77 18).trans ((hoff73 18 rfl).trans (hF68 18))))))))) ?_
                    refine RL.val rfl rfl (by decide) (r_move_as (v := (.int .i64 ((((a + c) / 2 + m - s : Nat) : Int)))) ((hoff115 24 rfl).trans ((hF103 24).trans ((hoff101 24 rfl).trans (hF92 24))))) ?_
                    refine RL.val rfl rfl (by decide) (r_move_as (v := (.int .i64 (((c : Nat) : Int)))) ((hoff115 3 rfl).trans ((hF103 3).trans ((hoff101 3 rfl).trans ((hF92 3).trans ((hoff80 3 rfl).trans ((hF77 3).trans ((hoff73 3 rfl).trans ((hF68 3).trans (hF0 3)))))))))) ?_
                    refine RL.val rfl rfl (by decide) (r_move_as (v := (.func (.func kc) #[] cl.toArray)) ((hoff115 4 rfl).trans ((hF103 4).trans ((hoff101 4 rfl).trans ((hF92 4).trans ((hoff80 4 rfl).trans ((hF77 4).trans ((hoff73 4 rfl).trans ((hF68 4).trans (hF0 4)))))))))) ?_
                    refine RL.call rfl rfl (by decide) (r_call (vl := [(.slice (some ⟨b, o, none⟩) (n) (cap)), (.int .i64 ((((a + c) / 2 : Nat) : Int))), (.int .i64 ((((a + c) / 2 + m - s : Nat) : Int))), (.int .i64 (((c : Nat) : Int))), (.func (.func kc) #[] cl.toArray)]) ent35 rfl) (ih _ _ _ (LA ++ M1) (L.drop (s - a)) (R.drop ((a + c) / 2 - s)) LB _ ha (by simp; omega) (by simp; omega) (by simp; omega) (by simp; omega) (by simp; omega) (hsL.drop _) (hsR.drop _) (fun x hx => hok x ((List.mem_append.1 hx).elim (fun h => List.mem_append.2 (.inl (List.mem_of_mem_drop h))) (fun h => List.mem_append.2 (.inr (List.mem_of_mem_drop h))))) (hw0.trans hE) (by omega)) ?_
                    rintro _ w118 ⟨rfl, ⟨M121, ha119, hs122, ht123⟩, hx120⟩
                    replace hE := hE.trans hx120
                    replace ha := ha119
                    refine RL.nil ?_
                    refine ⟨[], trivial, ?_⟩
                    obtain ⟨q1, q2⟩ := sym_parts (u := (s - a)) (v := ((a + c) / 2 - s)) (M1 := M1) (M2 := M121) hsL hsR (by omega) (by omega) (by rcases hlo2 with h | h; exact (by omega); exact .inr (.inr (by rw [show s - a - 1 = s - 1 - a by omega]; exact h))) (by rcases hhi2 with h | h; exact (by omega); exact .inr (.inr (by rw [show s = r by omega, show (a + c) / 2 - r - 1 = (a + c) / 2 - 1 - r by omega]; exact h))) hM1.1 hM1.2 hs122 ht123
                    exact ⟨rfl, ⟨M1 ++ M121, by simpa [List.append_assoc] using ha, q1, q2⟩, hE⟩
                  · have hb117p := hb117
                    replace hb117p := of_decide_eq_false hb117p
                    refine wskip ?_
                    refine ⟨[], trivial, ?_⟩
                    obtain ⟨q1, q2⟩ := sym_parts (u := (s - a)) (v := ((a + c) / 2 - s)) (M1 := M1) (M2 := (L.drop (s - a) ++ R.drop ((a + c) / 2 - s))) hsL hsR (by omega) (by omega) (by rcases hlo2 with h | h; exact (by omega); exact .inr (.inr (by rw [show s - a - 1 = s - 1 - a by omega]; exact h))) (by rcases hhi2 with h | h; exact (by omega); exact .inr (.inr (by rw [show s = r by omega, show (a + c) / 2 - r - 1 = (a + c) / 2 - 1 - r by omega]; exact h))) hM1.1 hM1.2 (no_mrg' hsL hsR (by omega)) (StE.refl _ _)
                    exact ⟨rfl, ⟨M1 ++ (L.drop (s - a) ++ R.drop ((a + c) / 2 - s)), by simpa [List.append_assoc] using ha, q1, q2⟩, hE⟩
                · have hb116p := hb116
                  replace hb116p := of_decide_eq_false hb116p
                  refine RL.gno rfl rfl (bool_eq hb116) rfl (by decide) ?_
                  refine RL.gno rfl rfl (bool_eq hb116) rfl (by decide) ?_
                  refine RL.gno rfl rfl (bool_eq hb116) rfl (by decide) ?_
                  refine RL.val rfl rfl (by decide) (r_pick_f (v := (.bool (false))) (bool_eq hb116) rfl) ?_
                  refine RL.nil ?_
                  refine wcond_f rfl ?_
                  refine wskip ?_
                  refine ⟨[], trivial, ?_⟩
                  obtain ⟨q1, q2⟩ := sym_parts (u := (s - a)) (v := ((a + c) / 2 - s)) (M1 := M1) (M2 := (L.drop (s - a) ++ R.drop ((a + c) / 2 - s))) hsL hsR (by omega) (by omega) (by rcases hlo2 with h | h; exact (by omega); exact .inr (.inr (by rw [show s - a - 1 = s - 1 - a by omega]; exact h))) (by rcases hhi2 with h | h; exact (by omega); exact .inr (.inr (by rw [show s = r by omega, show (a + c) / 2 - r - 1 = (a + c) / 2 - 1 - r by omega]; exact h))) hM1.1 hM1.2 (no_mrg' hsL hsR (by omega)) (StE.refl _ _)
                  exact ⟨rfl, ⟨M1 ++ (L.drop (s - a) ++ R.drop ((a + c) / 2 - s)), by simpa [List.append_assoc] using ha, q1, q2⟩, hE⟩


theorem symMerge_all {kc : Nat} {cl : List Value} {key : Int → Int} {ok : Int → Prop} {b o n cap : Nat} {w0 : World} (hent : Ent Try.prog kc) (hcmp : CmpOk Try.prog kc cl (gI .i64) key ok b w0) (hsz : n ≤ 4611686018427387903) (N : Nat) : SymOk kc cl key ok b o n cap w0 N := by
  induction N with
  | zero => intro a m c LA L R LB w ha h1 h2 h3 h4 h5 _ _ _ _ hN; omega
  | succ N ih => intro a m c LA L R LB w ha h1 h2 h3 h4 h5 hsL hsR hok hw0 hN; exact symMerge_step hent hcmp hw0 ih ha hsz h1 h2 h3 h4 h5 hsL hsR hok hN

end Go.Proofs.Ytppgppnkhpjlpaa
