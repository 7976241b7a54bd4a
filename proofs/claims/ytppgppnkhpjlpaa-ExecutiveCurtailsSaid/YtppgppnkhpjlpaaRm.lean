/- Walks, printed by program. -/
import Derived.Test.YtppgppnkhpjlpaaRl
import Derived.Test.YtppgppnkhpjlpaaWf
import Derived.Test.YtppgppnkhpjlpaaVgm
namespace Go.Proofs.Ytppgppnkhpjlpaa
open Go.Vg Go.RowKit
set_option linter.unusedVariables false

open Go.Vm

def nearF (ls : List (Int × Int)) (j : Nat) : Int × Int := (modF (ls.getD j default).1 40, modF (ls.getD j default).2 4)
noncomputable def curtL (ls : List (Int × Int)) (need : Int) : List Int := if curtE ls need = 0 then curtF ls need else []
theorem curt_norm {ls : List (Int × Int)} {need : Int} {w w' : World} {v : Value} (h : CurtPost ls need w w' v) : ∃ va, v = .tuple #[va, .int .i64 (curtE ls need)] ∧ Sg (gI .i64) (fun b _ => w.heap.size ≤ b) w' va (curtL ls need) := by
  unfold curtL
  rcases h with ⟨h1, h2⟩ | ⟨h1, va, h2, h3⟩
  · refine ⟨_, h2, ?_⟩
    rw [if_neg h1]
    exact Sg.nil
  · refine ⟨va, by rw [h1]; exact h2, ?_⟩
    rw [if_pos h1]
    exact h3
theorem load_one (ls : List (Int × Int)) : ∀ u ∈ (ls.map loadC).flatten, u.oneCell' = true := by
  intro u hu
  obtain ⟨l, hl, hul⟩ := List.mem_flatten.1 hu
  obtain ⟨p, _, rfl⟩ := List.mem_map.1 hl
  simp only [loadC, List.mem_cons, List.not_mem_nil, or_false] at hul
  rcases hul with rfl | rfl <;> rfl

set_option maxHeartbeats 4000000 in
theorem ecurt_spec {D : Nat → TypeId → Prop} {vl : Value} {ls : List (Int × Int)} {need : Int} {near : Bool} {w : World} (hl0 : Ss loadC 2 D w vl ls) :
    Calls Try.prog 3 #[vl, (.int .i64 (need)), (.bool (near))] w fun e w' => ∃ v, e = .returned v ∧ v = .bool true ∧ Ext w w' := by
  have hE : Below w.heap.size w w := Below.refl _ _
  have hl := hl0.old
  clear hl0
  refine calls_of (n := 76) (rs := [.tmp 6]) Try.func3 rfl rfl rfl (Nat.le_of_ble_eq_true rfl) ?_
  refine wset fun F0 hF0 => ?_
  refine wseq ?_
  refine wregion ?_
  refine RL.val rfl rfl (by decide) (r_assign_as (v := (.bool (false))) rfl) ?_
  refine RL.nil ?_
  refine wseq ?_
  refine wseq ?_
  refine wregion ?_
  refine RL.val rfl rfl (by decide) (r_move_as (v := vl) (hF0 0)) ?_
  obtain ⟨A1, c2, hv3, hc4, hc5⟩ := hl.len
  refine RL.val rfl rfl (by decide) (r_len Try.underlying22 hv3) ?_
  refine RL.val rfl rfl (by decide) (r_gtr (k := .i64) (a := ((ls.length : Nat) : Int)) (b := 40) rfl rfl) ?_
  refine RL.nil ?_
  refine wcond (b := decide (40 < ((ls.length : Nat) : Int))) rfl (fun hb6 => ?_) (fun hb6 => ?_)
  · have hb6p := hb6
    replace hb6p := of_decide_eq_true hb6p
    refine wseq ?_
    refine wregion ?_
    refine RL.val rfl rfl (by decide) (r_assign_as (v := (.bool (true))) rfl) ?_
    refine RL.nil ?_
    refine wret ?_
    refine ⟨[(.bool (true))], ⟨rfl, trivial⟩, ?_⟩
    first | exact ⟨rfl, hE⟩ | exact ⟨bool_eq (decide_eq_true rfl), hE⟩ | exact ⟨bool_eq (by simp), hE⟩
  · have hb6p := hb6
    replace hb6p := of_decide_eq_false hb6p
    refine wskip ?_
    refine wset fun F7 hF8 => ?_
    refine wcut (fun fl wl => ∃ vl2 : Value, ∃ ls2 : List (Int × Int), ∃ need2 : Int, Off [0, 1, 7, 8, 16, 17, 18, 19, 20, 21, 22, 23, 24, 25, 26, 27, 28, 29, 30, 31, 32, 33, 34, 35, 36, 37, 38, 39, 40, 41, 42, 43, 44, 45, 46, 47, 48, 49, 50, 51, 52] F7 fl ∧ fl 0 = vl2 ∧ fl 1 = (.int .i64 (need2)) ∧ (Ss loadC 2 (fun _ _ => True) wl vl2 ls2) ∧ (Ss loadC 2 (fun b T => D b T ∧ b < w.heap.size) wl vl ls) ∧ (Below w.heap.size w wl)) ?_ ?_
    · have hoff9 := Off.refl [0, 1, 7, 8, 16, 17, 18, 19, 20, 21, 22, 23, 24, 25, 26, 27, 28, 29, 30, 31, 32, 33, 34, 35, 36, 37, 38, 39, 40, 41, 42, 43, 44, 45, 46, 47, 48, 49, 50, 51, 52] F7
      refine wseq ?_
      refine wregion ?_
      refine RL.val rfl rfl (by decide) (r_move_as (v := (.bool (near))) ((hF8 2).trans (hF0 2))) ?_
      refine RL.nil ?_
      refine wcond (b := near) rfl (fun hb10 => ?_) (fun hb10 => ?_)
      · have hb10p := hb10
        refine wseq ?_
        refine wregion ?_
        refine RL.run rfl rfl (by decide) (h_lit (vl := []) (cs := []) Try.underlying22 ty25 rfl (by decide) (by first | (simp [Instr.fill, Value.cells]; done) | rfl | kernel_rfl)) ?_
        rintro _ w11 ⟨b12, rfl, hs15, hb14, he13⟩
        have he13z := he13.size
        have ge_b12 : w.heap.size ≤ b12 := by rw [hs15]; exact hE.size
        replace hE := Below.ext hE hE.size he13
        refine RL.val rfl rfl (by decide) (r_move_as (v := vl) ((hF8 0).trans (hF0 0))) ?_
        have ho17 := Ow.made (lo := w.heap.size) (size := 2) (n := 0) hb14 ge_b12 rfl (by simp [maxLen])
        replace hl := hl.tr (Sm.ext he13)
        refine RL.run rfl rfl (by decide) (h_append (v1 := (.slice (some ⟨b12, 0, none⟩) (0) (0))) (v2 := vl) (n := 0) (m := ls.length) (l := []) (news := (ls.map loadC).flatten) Try.underlying22 ty25 rfl (by decide) rfl rfl ho17 hl.2 (load_one ls) (by simp only [maxLen]; omega) (by omega) (by omega)) ?_
        rintro v18 w16 ⟨ho19, hg20⟩
        have hg20z := hg20.size
        replace hl := hl.tr (ho17.sm hg20 (by intro b hb hd; have := hd.2; omega))
        replace hE := ho17.below hg20 hE (by omega) (by omega)
        have hos : Osl loadC 2 w16 w.heap.size 25 v18 ls := ⟨⟨fun _ => rfl, by decide⟩, by have h := ho19; rw [List.nil_append, Nat.zero_add] at h; exact h⟩
        refine RL.val rfl rfl (by decide) (r_assign_as (v := v18) rfl) ?_
        refine RL.nil ?_
        refine wseq ?_
        refine wregion ?_
        refine RL.val rfl rfl (by decide) (r_assign_as (v := (.int .i64 (0))) rfl) ?_
        refine RL.nil ?_
        refine wseq ?_
        refine wseq ?_
        refine wregion ?_
        refine RL.val rfl rfl (by decide) (r_assign_as (v := (.int .i64 (0))) rfl) ?_
        refine RL.nil ?_
        refine wblock ?_
        refine wset fun F21 hF22 => ?_
        refine wloop (σ := Nat) (fun (k : Nat) fl wl => Off [7, 8, 20, 21, 22, 23, 24, 25, 26, 27, 28, 29, 30, 31, 32, 33, 34, 35, 36, 37, 38, 39, 40, 41, 42, 43, 44, 45, 46, 47, 48] F21 fl ∧ fl 8 = (.int .i64 (((k : Nat) : Int))) ∧ fl 7 = (.int .i64 (sumP ((byR (nearF ls) ls.length).take k))) ∧ (k ≤ ls.length) ∧ (0 ≤ sumP ((byR (nearF ls) ls.length).take k) ∧ sumP ((byR (nearF ls) ls.length).take k) ≤ k * 39) ∧ (Osl loadC 2 wl w.heap.size 25 v18 (updK (nearF ls) ls k)) ∧ (Ss loadC 2 (fun b T => D b T ∧ b < w.heap.size) wl vl ls) ∧ (Below w.heap.size w wl)) (fun (k : Nat) => ls.length - k) (0) ?_ ?_
        · exact ⟨Off.refl _ _, (hF22 8).trans (rfl), (hF22 7).trans ((int_eq (by simp [sumP]))), Nat.zero_le _, (by simp [sumP]), (by rw [updK_zero]; exact hos), hl, hE⟩
        · clear hl hE hos
          rintro k f23 w24 ⟨hoff25, hs26, hs27, hk, hsb, hos, hl, hE⟩
          have hul := length_updK (nearF ls) ls k
          refine wseq ?_
          refine wseq ?_
          refine wregion ?_
          refine RL.val rfl rfl (by decide) (r_move_as (v := (.int .i64 (((k : Nat) : Int)))) hs26) ?_
          refine RL.val rfl rfl (by decide) (r_move_as (v := v18) ((hoff25 0 rfl).trans (hF22 0))) ?_
          obtain ⟨A28, c29, hv30, hc31, hc32⟩ := hos.len
          refine RL.val rfl rfl (by decide) (r_len Try.underlying22 hv30) ?_
          refine RL.val rfl rfl (by decide) (r_lss (k := .i64) (a := ((k : Nat) : Int)) (b := (((updK (nearF ls) ls k).length : Nat) : Int)) rfl rfl) ?_
          refine RL.nil ?_
          refine wcond (b := decide (((k : Nat) : Int) < (((updK (nearF ls) ls k).length : Nat) : Int))) rfl (fun hb33 => ?_) (fun hb33 => ?_)
          · have hb33p := hb33
            replace hb33p := of_decide_eq_true hb33p
            refine wskip ?_
            refine wseq ?_
            refine wblock ?_
            refine wseq ?_
            have hkl : k < ls.length := by omega
            have hek : (updK (nearF ls) ls k).getD k default = ls.getD k default := by rw [updK_at hkl, if_neg (Nat.lt_irrefl _)]
            have hm40 := modF_range (ls.getD k default).1 40 (by decide)
            refine wdraw mixed fun w34 he35 => ?_
            have he35z := he35.size
            replace hE := Below.ext hE hE.size he35
            refine RA.take 0 rfl (by kernel_rfl) rfl rfl (by decide) (fun _ => r_move_as (v := v18) ((hoff25 0 rfl).trans (hF22 0))) ?_
            refine RA.take 1 rfl (by kernel_rfl) rfl rfl (by decide) (fun _ => r_move_as (v := (.int .i64 (((k : Nat) : Int)))) hs26) ?_
            refine RA.take 2 rfl (by kernel_rfl) rfl rfl (by decide) (fun _ => r_move_as (v := v18) ((hoff25 0 rfl).trans (hF22 0))) ?_
            refine RA.take 3 rfl (by kernel_rfl) rfl rfl (by decide) (fun _ => r_move_as (v := (.int .i64 (((k : Nat) : Int)))) hs26) ?_
            replace hos := hos.ext he35
            obtain ⟨b36, c37, hv38, ge_b36⟩ := hos.at (k) (by omega)
            have hc39 := hos.cell hv38 (i := ((k : Nat) : Int)) (k) (by omega) (by omega)
            refine RA.take 4 rfl (by kernel_rfl) rfl rfl (by decide) (fun _ => r_indexAddr (i := ((k : Nat) : Int)) Try.underlying22 ty25 hv38 rfl (by omega) (by omega)) ?_
            refine RA.take 5 rfl (by kernel_rfl) rfl rfl (by decide) (fun _ => r_fieldAddr Try.underlying25 rfl ty3 rfl) ?_
            refine RA.rd 6 rfl (by kernel_rfl) rfl rfl rfl (by decide) (Ext.refl _) (fun u hu => r_load (v := (.int .i64 (((updK (nearF ls) ls k).getD (k) default).1))) Try.underlying3 ag3 rfl (cell_ext hu (hc39 0 _ rfl))) ?_
            refine RA.take 8 rfl (by kernel_rfl) rfl rfl (by decide) (fun _ => r_move_as (v := v18) ((hoff25 0 rfl).trans (hF22 0))) ?_
            refine RA.take 9 rfl (by kernel_rfl) rfl rfl (by decide) (fun _ => r_move_as (v := (.int .i64 (((k : Nat) : Int)))) hs26) ?_
            obtain ⟨b40, c41, hv42, ge_b40⟩ := hos.at (k) (by omega)
            have hc43 := hos.cell hv42 (i := ((k : Nat) : Int)) (k) (by omega) (by omega)
            refine RA.take 10 rfl (by kernel_rfl) rfl rfl (by decide) (fun _ => r_indexAddr (i := ((k : Nat) : Int)) Try.underlying22 ty25 hv42 rfl (by omega) (by omega)) ?_
            refine RA.take 11 rfl (by kernel_rfl) rfl rfl (by decide) (fun _ => r_fieldAddr Try.underlying25 rfl ty3 rfl) ?_
            refine RA.rd 12 rfl (by kernel_rfl) rfl rfl rfl (by decide) (Ext.refl _) (fun u hu => r_load (v := (.int .i64 (((updK (nearF ls) ls k).getD (k) default).2))) Try.underlying3 ag3 rfl (cell_ext hu (hc43 1 _ rfl))) ?_
            refine RA.all [7] (by kernel_rfl) rfl ?_
            refine RS.call rfl rfl rfl (by decide) (r_call (vl := [(.int .i64 (((updK (nearF ls) ls k).getD (k) default).1)), (.int .i64 (40))]) ent4 rfl) (mod_spec _ (by omega) (by omega)) ?_ RS.nil
            rintro _ _ ⟨rfl, rfl⟩
            refine ⟨.inr (.inr (Ext.refl _)), RA.more (S' := fun u => Ext _ u) (fun u hu => Ext.trans (Ext.refl _) hu) ?_⟩
            refine RA.all [13] (by kernel_rfl) rfl ?_
            refine RS.call rfl rfl rfl (by decide) (r_call (vl := [(.int .i64 (((updK (nearF ls) ls k).getD (k) default).2)), (.int .i64 (4))]) ent4 rfl) (mod_spec _ (by omega) (by omega)) ?_ RS.nil
            rintro _ _ ⟨rfl, rfl⟩
            refine ⟨.inr (.inr (Ext.refl _)), RA.more (S' := fun u => Ext _ u) (fun u hu => Ext.trans (Ext.refl _) hu) ?_⟩
            refine RA.take 14 rfl (by kernel_rfl) rfl rfl (by decide) (fun _ => r_build (vl := [(0, (.int .i64 (modF (((updK (nearF ls) ls k).getD (k) default).1) 40))), (1, (.int .i64 (modF (((updK (nearF ls) ls k).getD (k) default).2) 4)))]) (cs := [(.int .i64 (modF (((updK (nearF ls) ls k).getD (k) default).1) 40)), (.int .i64 (modF (((updK (nearF ls) ls k).getD (k) default).2) 4))]) Try.underlying25 ty25 rfl pl25 rfl) ?_
            obtain ⟨b46, c47, hv48, ge_b46⟩ := hos.at (k) (by omega)
            have hc49 := hos.cell hv48 (i := ((k : Nat) : Int)) (k) (by omega) (by omega)
            refine RA.take 15 rfl (by kernel_rfl) rfl rfl (by decide) (fun _ => r_indexAddr (i := ((k : Nat) : Int)) Try.underlying22 ty25 hv48 rfl (by omega) (by omega)) ?_
            refine RA.all [16] (by kernel_rfl) rfl ?_
            refine RS.runs rfl rfl rfl (h_setO (i := ((k : Nat) : Int)) (u := (modF (((updK (nearF ls) ls k).getD (k) default).1) 40, modF (((updK (nearF ls) ls k).getD (k) default).2) 4)) ty25 rfl rfl rfl (one_cons rfl (one_cons rfl one_nil)) hos hv48 (k) (by omega) (by omega)) ?_ RS.nil
            rintro w50 ⟨ha51, hx52⟩
            refine ⟨.inr (.inl (by kernel_rfl)), ?_⟩
            have hx52z := hx52.size
            replace hE := Below.exc hE hE.size hx52 ge_b46
            replace hos := ha51
            refine RA.done (by kernel_rfl) ?_
            have hul2 : ((updK (nearF ls) ls k).set k (modF ((updK (nearF ls) ls k).getD (k) default).1 40, modF ((updK (nearF ls) ls k).getD (k) default).2 4)).length = ls.length := by rw [List.length_set, hul]
            refine wregion ?_
            refine RL.val rfl rfl (by decide) (r_move_as (v := (.int .i64 (sumP ((byR (nearF ls) ls.length).take k)))) hs27) ?_
            refine RL.val rfl rfl (by decide) (r_move_as (v := v18) ((hoff25 0 rfl).trans (hF22 0))) ?_
            refine RL.val rfl rfl (by decide) (r_move_as (v := (.int .i64 (((k : Nat) : Int)))) hs26) ?_
            obtain ⟨b53, c54, hv55, ge_b53⟩ := hos.at (k) (by omega)
            have hc56 := hos.cell hv55 (i := ((k : Nat) : Int)) (k) (by omega) (by omega)
            rw [show ((updK (nearF ls) ls k).set (k) (modF (((updK (nearF ls) ls k).getD (k) default).1) 40, modF (((updK (nearF ls) ls k).getD (k) default).2) 4)).getD (k) default = (modF (ls.getD (k) default).1 40, modF (ls.getD (k) default).2 4) from (by rw [set_at (by rw [hul]; exact hkl), if_pos rfl, hek])] at hc56
            refine RL.val rfl rfl (by decide) (r_indexAddr (i := ((k : Nat) : Int)) Try.underlying22 ty25 hv55 rfl (by omega) (by omega)) ?_
            refine RL.val rfl rfl (by decide) (r_fieldAddr Try.underlying25 rfl ty3 rfl) ?_
            refine RL.val rfl rfl (by decide) (r_load (v := (.int .i64 (((modF (ls.getD (k) default).1 40, modF (ls.getD (k) default).2 4)).1))) Try.underlying3 ag3 rfl (hc56 0 _ rfl)) ?_
            refine RL.val rfl rfl (by decide) (r_add (k := .i64) (a := sumP ((byR (nearF ls) ls.length).take k)) (b := ((modF (ls.getD (k) default).1 40, modF (ls.getD (k) default).2 4)).1) (c := (sumP ((byR (nearF ls) ls.length).take k)) + (((modF (ls.getD (k) default).1 40, modF (ls.getD (k) default).2 4)).1)) rfl rfl (wi64 (by omega))) ?_
            refine RL.val rfl rfl (by decide) (r_assign_as (v := (.int .i64 ((sumP ((byR (nearF ls) ls.length).take k)) + (((modF (ls.getD (k) default).1 40, modF (ls.getD (k) default).2 4)).1)))) rfl) ?_
            refine RL.nil ?_
            refine wregion ?_
            refine RL.val rfl rfl (by decide) (r_move_as (v := (.int .i64 (((k : Nat) : Int)))) hs26) ?_
            refine RL.val rfl rfl (by decide) (r_add (k := .i64) (a := ((k : Nat) : Int)) (b := 1) (c := ((k : Nat) : Int) + 1) rfl rfl (wi64 (by omega))) ?_
            refine RL.val rfl rfl (by decide) (r_assign_as (v := (.int .i64 (((k : Nat) : Int) + 1))) rfl) ?_
            refine RL.nil ?_
            replace hl := (hl.tr (Sm.ext he35)).tr (Sm.exc hx52 (fun _ _ _ _ hd => absurd hd.2 (Nat.not_lt_of_le ge_b46)))
            refine ⟨(k + 1), ⟨?_, ?_, ?_, ?_, ?_, ?_, ?_, ?_⟩, ?_⟩
            · exact (by repeat (first | exact hoff25 | refine Off.st ?_ (by decide) _))
            · first | rfl | exact int_eq (by omega) | exact bool_eq (by simp)
            · exact int_eq (by rw [take_snoc _ k (by rw [length_byR]; omega), sumP_snoc, byR_at hkl]; rfl)
            · omega
            · rw [take_snoc _ k (by rw [length_byR]; omega), sumP_snoc, byR_at hkl, show (nearF ls k).1 = modF (ls.getD k default).1 40 from rfl]; omega
            · rw [updK_set hkl (by rw [hek]; rfl)] at hos; exact hos
            · exact hl
            · exact hE
            · (try dsimp only)
              omega
          · have hb33p := hb33
            replace hb33p := of_decide_eq_false hb33p
            refine wexit ?_
            have hkn : k = ls.length := by omega
            rw [updK_full (by omega)] at hos
            refine wregion ?_
            refine RL.val rfl rfl (by decide) (r_move_as (v := (.int .i64 (need))) ((hoff25 1 rfl).trans ((hF22 1).trans ((hF8 1).trans (hF0 1))))) ?_
            refine RL.val rfl rfl (by decide) (r_move_as (v := (.int .i64 (sumP ((byR (nearF ls) ls.length).take k)))) hs27) ?_
            refine RL.val rfl rfl (by decide) (r_add (k := .i64) (a := sumP ((byR (nearF ls) ls.length).take k)) (b := 2) (c := (sumP ((byR (nearF ls) ls.length).take k)) + 2) rfl rfl (wi64 (by omega))) ?_
            refine RL.call rfl rfl (by decide) (r_call (vl := [(.int .i64 (need)), (.int .i64 ((sumP ((byR (nearF ls) ls.length).take k)) + 2))]) ent4 rfl) (mod_spec _ (by omega) (by omega)) ?_
            rintro _ _ ⟨rfl, rfl⟩
            refine RL.val rfl rfl (by decide) (r_assign_as (v := (.int .i64 (modF need ((sumP ((byR (nearF ls) ls.length).take k)) + 2)))) rfl) ?_
            refine RL.nil ?_
            refine ⟨v18, (byR (nearF ls) ls.length), modF need ((sumP ((byR (nearF ls) ls.length).take k)) + 2), ?_, ?_, ?_, ?_, ?_, ?_⟩
            · exact (by repeat (first | exact hoff9 | refine Off.st ?_ (by decide) _ | refine Off.via hoff25 (by decide) ?_ | refine Off.eq hF22 ?_))
            · refine (((hoff25 0 rfl).trans (hF22 0))).trans ?_
              rfl
            · rfl
            · exact hos.ss (fun _ _ => trivial)
            · exact hl
            · exact hE
      · have hb10p := hb10
        refine wskip ?_
        refine ⟨vl, ls, need, ?_, ?_, ?_, ?_, ?_, ?_⟩
        · exact (by repeat (first | exact hoff9 | refine Off.st ?_ (by decide) _))
        · refine (((hF8 0).trans (hF0 0))).trans ?_
          rfl
        · refine (((hF8 1).trans (hF0 1))).trans ?_
          rfl
        · exact hl.mono (fun _ _ _ => trivial)
        · exact hl
        · exact hE
    · clear hl hE
      rintro f58 w59 ⟨vl2, ls2, need2, hoff60, hs61, hs62, hl2, hl, hE⟩
      refine wseq ?_
      refine wregion ?_
      refine RL.val rfl rfl (by decide) (r_move_as (v := vl2) hs61) ?_
      refine RL.val rfl rfl (by decide) (r_move_as (v := (.int .i64 (need2))) hs62) ?_
      refine RL.call rfl rfl (by decide) (r_call (vl := [vl2, (.int .i64 (need2))]) ent5 rfl) (curtail_spec (need := need2) hl2) ?_
      rintro vq65 w63 ⟨hq66, he64⟩
      obtain ⟨vr67, rfl, hcu68⟩ := curt_norm hq66
      have he64z := he64.size
      replace hE := Below.ext hE hE.size he64
      refine RL.val rfl rfl (by decide) (r_move_as (v := (.tuple #[vr67, (.int .i64 (curtE ls2 need2))])) rfl) ?_
      refine RL.val rfl rfl (by decide) (r_extract (v := vr67) rfl rfl) ?_
      refine RL.val rfl rfl (by decide) (r_extract (v := (.int .i64 (curtE ls2 need2))) rfl rfl) ?_
      refine RL.val rfl rfl (by decide) (r_assign_as (v := vr67) rfl) ?_
      refine RL.val rfl rfl (by decide) (r_assign_as (v := (.int .i64 (curtE ls2 need2))) rfl) ?_
      refine RL.nil ?_
      refine wseq ?_
      refine wregion ?_
      refine RL.val rfl rfl (by decide) (r_move_as (v := vl2) hs61) ?_
      refine RL.val rfl rfl (by decide) (r_move_as (v := (.int .i64 (need2))) hs62) ?_
      replace hl2 := hl2.tr (Sm.ext he64)
      refine RL.call rfl rfl (by decide) (r_call (vl := [vl2, (.int .i64 (need2))]) ent6 rfl) (r43_curtail (need := need2) hl2) ?_
      rintro vq71 w69 ⟨hq72, he70⟩
      obtain ⟨vr73, rfl, hcu74⟩ := curt_norm hq72
      have he70z := he70.size
      replace hE := Below.ext hE hE.size he70
      refine RL.val rfl rfl (by decide) (r_move_as (v := (.tuple #[vr73, (.int .i64 (curtE ls2 need2))])) rfl) ?_
      refine RL.val rfl rfl (by decide) (r_extract (v := vr73) rfl rfl) ?_
      refine RL.val rfl rfl (by decide) (r_extract (v := (.int .i64 (curtE ls2 need2))) rfl rfl) ?_
      refine RL.val rfl rfl (by decide) (r_assign_as (v := vr73) rfl) ?_
      refine RL.val rfl rfl (by decide) (r_assign_as (v := (.int .i64 (curtE ls2 need2))) rfl) ?_
      refine RL.nil ?_
      refine wseq ?_
      refine wregion ?_
      refine RL.call rfl rfl (by decide) (r_call (vl := []) ent7 rfl) (awake_spec) ?_
      rintro _ w75 ⟨rfl, he76⟩
      have he76z := he76.size
      replace hE := Below.ext hE hE.size he76
      refine RL.val rfl rfl (by decide) (r_move_as (v := (.bool (true))) rfl) ?_
      refine RL.gval rfl rfl rfl rfl (by decide) (r_move_as (v := (.int .i64 (curtE ls2 need2))) rfl) ?_
      refine RL.gval rfl rfl rfl rfl (by decide) (r_move_as (v := (.int .i64 (curtE ls2 need2))) rfl) ?_
      refine RL.gval rfl rfl rfl rfl (by decide) (r_eql (k := .i64) (a := curtE ls2 need2) (b := curtE ls2 need2) rfl rfl) ?_
      refine RL.val rfl rfl (by decide) (r_pick_t (v := (.bool (decide ((curtE ls2 need2) = (curtE ls2 need2))))) rfl rfl) ?_
      refine RL.val rfl rfl (by decide) (r_move_as (v := (.bool (decide ((curtE ls2 need2) = (curtE ls2 need2))))) rfl) ?_
      rcases Bool.eq_false_or_eq_true (decide ((curtE ls2 need2) = (curtE ls2 need2))) with hb77 | hb77
      · have hb77p := hb77
        replace hb77p := of_decide_eq_true hb77p
        refine RL.gval rfl rfl (bool_eq hb77) rfl (by decide) (r_move_as (v := vr67) rfl) ?_
        refine RL.gval rfl rfl (bool_eq hb77) rfl (by decide) (r_move_as (v := vr73) rfl) ?_
        replace hcu68 := hcu68.tr (Sm.ext (Ext.trans he70 he76))
        replace hcu74 := hcu74.tr (Sm.ext he76)
        refine RL.gcall rfl rfl (bool_eq hb77) rfl (by decide) (r_call (vl := [vr67, vr73]) ent8 rfl) (ints18 hcu68 hcu74) ?_
        rintro vq80 w78 ⟨hq81, he79⟩
        have he79z := he79.size
        replace hE := Below.ext hE hE.size he79
        subst hq81
        refine RL.val rfl rfl (by decide) (r_pick_t (v := (.bool (decide ((curtL ls2 need2) = (curtL ls2 need2))))) (bool_eq hb77) rfl) ?_
        refine RL.val rfl rfl (by decide) (r_assign_as (v := (.bool (decide ((curtL ls2 need2) = (curtL ls2 need2))))) rfl) ?_
        refine RL.nil ?_
        refine wret ?_
        refine ⟨[(.bool (decide ((curtL ls2 need2) = (curtL ls2 need2))))], ⟨rfl, trivial⟩, ?_⟩
        first | exact ⟨rfl, hE⟩ | exact ⟨bool_eq (decide_eq_true rfl), hE⟩ | exact ⟨bool_eq (by simp), hE⟩
      · have hb77p := hb77
        replace hb77p := of_decide_eq_false hb77p
        exact absurd rfl hb77p

end Go.Proofs.Ytppgppnkhpjlpaa
