/- Walks, printed by program. -/
import Derived.Test.YtppgppnkhpjlpaaWu
namespace Go.Proofs.Ytppgppnkhpjlpaa
open Go.Vg Go.RowKit
set_option linter.unusedVariables false

open Go.Vm
set_option maxHeartbeats 1000000 in
theorem stable_int {b o n cap : Nat} {xs : List Int} {w : World} {kc : Nat} {cl : List Value} {key : Int → Int} {ok : Int → Prop} {w0 : World} (hent : Ent Try.prog kc) (hcmp : CmpOk Try.prog kc cl (gI .i64) key ok b w0) (hw0 : Exc b w0 w) (ha : Ar (gI .i64) w b 3 o xs n) (hsz : n ≤ 4611686018427387903) (hok : ∀ x ∈ xs, ok x) :
    Calls Try.prog 18 #[(.slice (some ⟨b, o, none⟩) (n) (cap)), (.int .i64 (((n : Nat) : Int))), (.func (.func kc) #[] cl.toArray)] w fun e w' => ∃ v, e = .returned v ∧ v = .tuple #[] ∧ (∃ l, Ar (gI .i64) w' b 3 o l n ∧ Srt key l ∧ StE key xs l) ∧ Exc b w w' := by
  have hE : Exc b w w := Exc.of_ext (Ext.refl _)
  have hn : xs.length = n := ha.2
  refine calls_of (n := 63) (rs := []) Try.func18 rfl rfl rfl (Nat.le_of_ble_eq_true rfl) ?_
  refine wset fun F0 hF0 => ?_
  refine wseq ?_
  refine wregion ?_
  refine RL.val rfl rfl (by decide) (r_assign_as (v := (.int .i64 (20))) rfl) ?_
  refine RL.nil ?_
  refine wseq ?_
  refine wregion ?_
  refine RL.val rfl rfl (by decide) (r_move_as (v := (.int .i64 (20))) rfl) ?_
  refine RL.val rfl rfl (by decide) (r_assign_as (v := (.int .i64 (0))) rfl) ?_
  refine RL.val rfl rfl (by decide) (r_assign_as (v := (.int .i64 (20))) rfl) ?_
  refine RL.nil ?_
  refine wseq ?_
  refine wblock ?_
  refine wset fun F1 hF2 => ?_
  refine wloop (σ := Nat × List Int) (fun (s : Nat × List Int) fl wl => match s with | (e, D) => Off [7, 8, 11, 12, 13, 14, 15, 16, 17, 18, 19, 20, 21, 22] F1 fl ∧ fl 7 = (.int .i64 (((e : Nat) : Int))) ∧ fl 8 = (.int .i64 (((e + 20 : Nat) : Int))) ∧ (D.length = e) ∧ (∃ k, e = k * 20) ∧ (e ≤ n) ∧ (StE key (xs.take e) D) ∧ (Blk key 20 D) ∧ (Ar (gI .i64) wl b 3 o (D ++ xs.drop e) n) ∧ (Exc b w wl)) (fun (s : Nat × List Int) => match s with | (e, D) => n - e) (0, []) ?_ ?_
  · exact ⟨Off.refl _ _, (hF2 7).trans (rfl), (hF2 8).trans (rfl), rfl, ⟨0, rfl⟩, Nat.zero_le _, (by simp; exact StE.refl _ _), Blk.nil _ _, (by simpa using ha), hE⟩
  · clear ha hE
    rintro ⟨e, D⟩ f3 w4 ⟨hoff5, hs6, hs7, hDl, hd, hen, hDs, hDb, ha, hE⟩
    refine wseq ?_
    refine wseq ?_
    refine wregion ?_
    refine RL.val rfl rfl (by decide) (r_move_as (v := (.int .i64 (((e + 20 : Nat) : Int)))) hs7) ?_
    refine RL.val rfl rfl (by decide) (r_move_as (v := (.int .i64 (((n : Nat) : Int)))) ((hoff5 1 rfl).trans ((hF2 1).trans (hF0 1)))) ?_
    refine RL.val rfl rfl (by decide) (r_leq (k := .i64) (a := ((e + 20 : Nat) : Int)) (b := ((n : Nat) : Int)) rfl rfl) ?_
    refine RL.nil ?_
    refine wcond (b := decide (((e + 20 : Nat) : Int) ≤ ((n : Nat) : Int))) rfl (fun hb8 => ?_) (fun hb8 => ?_)
    · have hb8p := hb8
      replace hb8p := of_decide_eq_true hb8p
      refine wskip ?_
      refine wblock ?_
      refine wseq ?_
      refine wregion ?_
      refine RL.val rfl rfl (by decide) (r_move_as (v := (.slice (some ⟨b, o, none⟩) (n) (cap))) ((hoff5 0 rfl).trans ((hF2 0).trans (hF0 0)))) ?_
      refine RL.val rfl rfl (by decide) (r_move_as (v := (.int .i64 (((e : Nat) : Int)))) hs6) ?_
      refine RL.val rfl rfl (by decide) (r_move_as (v := (.int .i64 (((e + 20 : Nat) : Int)))) hs7) ?_
      refine RL.val rfl rfl (by decide) (r_move_as (v := (.func (.func kc) #[] cl.toArray)) ((hoff5 2 rfl).trans ((hF2 2).trans (hF0 2)))) ?_
      refine RL.call rfl rfl (by decide) (r_call (vl := [(.slice (some ⟨b, o, none⟩) (n) (cap)), (.int .i64 (((e : Nat) : Int))), (.int .i64 (((e + 20 : Nat) : Int))), (.func (.func kc) #[] cl.toArray)]) ent34 rfl) (insertion_int (LA := D) (LS := (xs.drop e).take 20) (LB := xs.drop (e + 20)) hent hcmp (hw0.trans hE) ha hsz (seg_split _ _ _ _) (by omega) (by simp; omega) (fun x hx => hok x (List.mem_of_mem_drop (List.mem_of_mem_take hx)))) ?_
      rintro _ w9 ⟨rfl, ⟨M12, ha10, hs13, ht14⟩, hx11⟩
      replace hE := hE.trans hx11
      replace ha := ha10
      refine RL.nil ?_
      refine wseq ?_
      refine wregion ?_
      refine RL.val rfl rfl (by decide) (r_move_as (v := (.int .i64 (((e + 20 : Nat) : Int)))) hs7) ?_
      refine RL.val rfl rfl (by decide) (r_assign_as (v := (.int .i64 (((e + 20 : Nat) : Int)))) rfl) ?_
      refine RL.nil ?_
      refine wregion ?_
      refine RL.val rfl rfl (by decide) (r_move_as (v := (.int .i64 (((e + 20 : Nat) : Int)))) hs7) ?_
      refine RL.val rfl rfl (by decide) (r_move_as (v := (.int .i64 (20))) ((hoff5 6 rfl).trans (hF2 6))) ?_
      refine RL.val rfl rfl (by decide) (r_add (k := .i64) (a := ((e + 20 : Nat) : Int)) (b := 20) (c := ((e + 20 + 20 : Nat) : Int)) rfl rfl ((wi64 (by omega)).trans (by omega))) ?_
      refine RL.val rfl rfl (by decide) (r_assign_as (v := (.int .i64 (((e + 20 + 20 : Nat) : Int)))) rfl) ?_
      refine RL.nil ?_
      refine ⟨(e + 20, D ++ M12), ⟨?_, ?_, ?_, ?_, ?_, ?_, ?_, ?_, ?_, ?_⟩, ?_⟩
      · exact (by repeat (first | exact hoff5 | refine Off.st ?_ (by decide) _))
      · first | rfl | exact int_eq (by omega) | exact bool_eq (by simp)
      · first | rfl | exact int_eq (by omega) | exact bool_eq (by simp)
      · have := ht14.length; simp at *; omega
      · exact next_mul hd
      · omega
      · rw [take_seg]; exact StE.append hDs ht14
      · exact hDb.snoc (by rw [hDl]; exact hd) hs13 (by have := ht14.length; simp at this; omega)
      · exact ha
      · exact hE
      · (try dsimp only)
        omega
    · have hb8p := hb8
      replace hb8p := of_decide_eq_false hb8p
      refine wexit ?_
      refine wseq ?_
      refine wregion ?_
      refine RL.val rfl rfl (by decide) (r_move_as (v := (.slice (some ⟨b, o, none⟩) (n) (cap))) ((hoff5 0 rfl).trans ((hF2 0).trans (hF0 0)))) ?_
      refine RL.val rfl rfl (by decide) (r_move_as (v := (.int .i64 (((e : Nat) : Int)))) hs6) ?_
      refine RL.val rfl rfl (by decide) (r_move_as (v := (.int .i64 (((n : Nat) : Int)))) ((hoff5 1 rfl).trans ((hF2 1).trans (hF0 1)))) ?_
      refine RL.val rfl rfl (by decide) (r_move_as (v := (.func (.func kc) #[] cl.toArray)) ((hoff5 2 rfl).trans ((hF2 2).trans (hF0 2)))) ?_
      refine RL.call rfl rfl (by decide) (r_call (vl := [(.slice (some ⟨b, o, none⟩) (n) (cap)), (.int .i64 (((e : Nat) : Int))), (.int .i64 (((n : Nat) : Int))), (.func (.func kc) #[] cl.toArray)]) ent34 rfl) (insertion_int (LA := D) (LS := xs.drop e) (LB := []) hent hcmp (hw0.trans hE) ha hsz (by simp) (by omega) (by simp; omega) (fun x hx => hok x (List.mem_of_mem_drop hx))) ?_
      rintro _ w15 ⟨rfl, ⟨M18, ha16, hs19, ht20⟩, hx17⟩
      replace hE := hE.trans hx17
      replace ha := ha16
      refine RL.nil ?_
      refine wblock ?_
      refine wset fun F21 hF22 => ?_
      refine wloop (σ := Nat × List Int) (fun (s : Nat × List Int) fl wl => match s with | (z, l) => Off [6, 7, 8, 9, 28, 29, 30, 31, 32, 33, 34, 35, 36, 37, 38, 39, 40, 41, 42, 43, 44, 45, 46, 47, 48, 49, 50, 51, 52, 53, 54, 55, 56, 57, 58, 59, 60, 61, 62] F21 fl ∧ fl 6 = (.int .i64 (((z : Nat) : Int))) ∧ (0 < z) ∧ (StE key xs l) ∧ (Blk key z l) ∧ (Ar (gI .i64) wl b 3 o l n) ∧ (Exc b w wl)) (fun (s : Nat × List Int) => match s with | (z, l) => n - z) (20, D ++ M18) ?_ ?_
      · exact ⟨Off.refl _ _, (hF22 6).trans ((((hoff5 6 rfl).trans (hF2 6))).trans rfl), by decide, (by have e1 := StE.append hDs ht20; rw [List.take_append_drop] at e1; exact e1), (hDb.snoc (by rw [hDl]; exact hd) hs19 (by have := ht20.length; simp at this; omega)), (by simpa using ha), hE⟩
      · clear ha hE
        rintro ⟨z, l⟩ f23 w24 ⟨hoff25, hs26, hz, hls, hlb, ha, hE⟩
        have hll : l.length = n := by have := hls.length; omega
        have hokl : ∀ x ∈ l, ok x := fun x hx => hok x (hls.symm.mem hx)
        refine wseq ?_
        refine wseq ?_
        refine wregion ?_
        refine RL.val rfl rfl (by decide) (r_move_as (v := (.int .i64 (((z : Nat) : Int)))) hs26) ?_
        refine RL.val rfl rfl (by decide) (r_move_as (v := (.int .i64 (((n : Nat) : Int)))) ((hoff25 1 rfl).trans ((hF22 1).trans ((hoff5 1 rfl).trans ((hF2 1).trans (hF0 1)))))) ?_
        refine RL.val rfl rfl (by decide) (r_lss (k := .i64) (a := ((z : Nat) : Int)) (b := ((n : Nat) : Int)) rfl rfl) ?_
        refine RL.nil ?_
        refine wcond (b := decide (((z : Nat) : Int) < ((n : Nat) : Int))) rfl (fun hb27 => ?_) (fun hb27 => ?_)
        · have hb27p := hb27
          replace hb27p := of_decide_eq_true hb27p
          refine wskip ?_
          refine wblock ?_
          refine wseq ?_
          refine wregion ?_
          refine RL.val rfl rfl (by decide) (r_move_as (v := (.int .i64 (((z : Nat) : Int)))) hs26) ?_
          refine RL.val rfl rfl (by decide) (r_mul (k := .i64) (a := 2) (b := ((z : Nat) : Int)) (c := ((2 * z : Nat) : Int)) rfl rfl ((wi64 (by omega)).trans (by omega))) ?_
          refine RL.val rfl rfl (by decide) (r_assign_as (v := (.int .i64 (0))) rfl) ?_
          refine RL.val rfl rfl (by decide) (r_assign_as (v := (.int .i64 (((2 * z : Nat) : Int)))) rfl) ?_
          refine RL.nil ?_
          refine wseq ?_
          refine wblock ?_
          refine wset fun F28 hF29 => ?_
          refine wloop (σ := Nat × List Int) (fun (s : Nat × List Int) fl wl => match s with | (e, D) => Off [7, 8, 33, 34, 35, 36, 37, 38, 39, 40, 41, 42, 43, 44, 45, 46, 47, 48] F28 fl ∧ fl 7 = (.int .i64 (((e : Nat) : Int))) ∧ fl 8 = (.int .i64 (((e + 2 * z : Nat) : Int))) ∧ (D.length = e) ∧ (∃ k, e = k * (2 * z)) ∧ (e ≤ n) ∧ (StE key (l.take e) D) ∧ (Blk key (2 * z) D) ∧ (Ar (gI .i64) wl b 3 o (D ++ l.drop e) n) ∧ (Exc b w wl)) (fun (s : Nat × List Int) => match s with | (e, D) => n - e) (0, []) ?_ ?_
          · exact ⟨Off.refl _ _, (hF29 7).trans (rfl), (hF29 8).trans ((int_eq (by omega))), rfl, ⟨0, by simp⟩, Nat.zero_le _, (by simp; exact StE.refl _ _), Blk.nil _ _, (by simpa using ha), hE⟩
          · clear ha hE
            rintro ⟨e, D⟩ f30 w31 ⟨hoff32, hs33, hs34, hDl, hd, hen, hDs, hDb, ha, hE⟩
            refine wseq ?_
            refine wseq ?_
            refine wregion ?_
            refine RL.val rfl rfl (by decide) (r_move_as (v := (.int .i64 (((e + 2 * z : Nat) : Int)))) hs34) ?_
            refine RL.val rfl rfl (by decide) (r_move_as (v := (.int .i64 (((n : Nat) : Int)))) ((hoff32 1 rfl).trans ((hF29 1).trans ((hoff25 1 rfl).trans ((hF22 1).trans ((hoff5 1 rfl).trans ((hF2 1).trans (hF0 1)))))))) ?_
            refine RL.val rfl rfl (by decide) (r_leq (k := .i64) (a := ((e + 2 * z : Nat) : Int)) (b := ((n : Nat) : Int)) rfl rfl) ?_
            refine RL.nil ?_
            refine wcond (b := decide (((e + 2 * z : Nat) : Int) ≤ ((n : Nat) : Int))) rfl (fun hb35 => ?_) (fun hb35 => ?_)
            · have hb35p := hb35
              replace hb35p := of_decide_eq_true hb35p
              refine wskip ?_
              refine wblock ?_
              refine wseq ?_
              refine wregion ?_
              refine RL.val rfl rfl (by decide) (r_move_as (v := (.slice (some ⟨b, o, none⟩) (n) (cap))) ((hoff32 0 rfl).trans ((hF29 0).trans ((hoff25 0 rfl).trans ((hF22 0).trans ((hoff5 0 rfl).trans ((hF2 0).trans (hF0 0)))))))) ?_
              refine RL.val rfl rfl (by decide) (r_move_as (v := (.int .i64 (((e : Nat) : Int)))) hs33) ?_
              refine RL.val rfl rfl (by decide) (r_move_as (v := (.int .i64 (((e : Nat) : Int)))) hs33) ?_
              refine RL.val rfl rfl (by decide) (r_move_as (v := (.int .i64 (((z : Nat) : Int)))) ((hoff32 6 rfl).trans ((hF29 6).trans hs26))) ?_
              refine RL.val rfl rfl (by decide) (r_add (k := .i64) (a := ((e : Nat) : Int)) (b := ((z : Nat) : Int)) (c := ((e + z : Nat) : Int)) rfl rfl ((wi64 (by omega)).trans (by omega))) ?_
              refine RL.val rfl rfl (by decide) (r_move_as (v := (.int .i64 (((e + 2 * z : Nat) : Int)))) hs34) ?_
              refine RL.val rfl rfl (by decide) (r_move_as (v := (.func (.func kc) #[] cl.toArray)) ((hoff32 2 rfl).trans ((hF29 2).trans ((hoff25 2 rfl).trans ((hF22 2).trans ((hoff5 2 rfl).trans ((hF2 2).trans (hF0 2)))))))) ?_
              refine RL.call rfl rfl (by decide) (r_call (vl := [(.slice (some ⟨b, o, none⟩) (n) (cap)), (.int .i64 (((e : Nat) : Int))), (.int .i64 (((e + z : Nat) : Int))), (.int .i64 (((e + 2 * z : Nat) : Int))), (.func (.func kc) #[] cl.toArray)]) ent35 rfl) (symMerge_all hent hcmp hsz _ _ _ _ D ((l.drop e).take z) ((l.drop (e + z)).take z) (l.drop (e + 2 * z)) _ (seg_split2 D l e z ▸ ha) (by omega) (by simp; omega) (by simp; omega) (by simp; omega) (by simp; omega) (hlb.at (twice hd)) (hlb.at (next_mul (twice hd))) (fun x hx => hokl x ((List.mem_append.1 hx).elim (fun h => List.mem_of_mem_drop (List.mem_of_mem_take h)) (fun h => List.mem_of_mem_drop (List.mem_of_mem_take h)))) (hw0.trans hE) (Nat.le_refl _)) ?_
              rintro _ w36 ⟨rfl, ⟨M39, ha37, hs40, ht41⟩, hx38⟩
              replace hE := hE.trans hx38
              replace ha := ha37
              refine RL.nil ?_
              refine wseq ?_
              refine wregion ?_
              refine RL.val rfl rfl (by decide) (r_move_as (v := (.int .i64 (((e + 2 * z : Nat) : Int)))) hs34) ?_
              refine RL.val rfl rfl (by decide) (r_assign_as (v := (.int .i64 (((e + 2 * z : Nat) : Int)))) rfl) ?_
              refine RL.nil ?_
              refine wregion ?_
              refine RL.val rfl rfl (by decide) (r_move_as (v := (.int .i64 (((e + 2 * z : Nat) : Int)))) hs34) ?_
              refine RL.val rfl rfl (by decide) (r_move_as (v := (.int .i64 (((z : Nat) : Int)))) ((hoff32 6 rfl).trans ((hF29 6).trans hs26))) ?_
              refine RL.val rfl rfl (by decide) (r_mul (k := .i64) (a := 2) (b := ((z : Nat) : Int)) (c := ((2 * z : Nat) : Int)) rfl rfl ((wi64 (by omega)).trans (by omega))) ?_
              refine RL.val rfl rfl (by decide) (r_add (k := .i64) (a := ((e + 2 * z : Nat) : Int)) (b := ((2 * z : Nat) : Int)) (c := ((e + 2 * z + 2 * z : Nat) : Int)) rfl rfl ((wi64 (by omega)).trans (by omega))) ?_
              refine RL.val rfl rfl (by decide) (r_assign_as (v := (.int .i64 (((e + 2 * z + 2 * z : Nat) : Int)))) rfl) ?_
              refine RL.nil ?_
              refine ⟨(e + 2 * z, D ++ M39), ⟨?_, ?_, ?_, ?_, ?_, ?_, ?_, ?_, ?_, ?_⟩, ?_⟩
              · exact (by repeat (first | exact hoff32 | refine Off.st ?_ (by decide) _ | refine Off.via hoff25 (by decide) ?_ | refine Off.eq hF22 ?_ | refine Off.via hoff5 (by decide) ?_ | refine Off.eq hF2 ?_))
              · first | rfl | exact int_eq (by omega) | exact bool_eq (by simp)
              · first | rfl | exact int_eq (by omega) | exact bool_eq (by simp)
              · have := ht41.length; simp at *; omega
              · exact next_mul hd
              · omega
              · rw [show e + 2 * z = e + z + z by omega, take_seg, take_seg, List.append_assoc]; exact StE.append hDs ht41
              · exact hDb.snoc (by rw [hDl]; exact hd) hs40 (by have := ht41.length; simp at this; omega)
              · exact ha
              · exact hE
              · (try dsimp only)
                omega
            · have hb35p := hb35
              replace hb35p := of_decide_eq_false hb35p
              refine wexit ?_
              refine wset fun F42 hF43 => ?_
              refine wcut (fun fl wl => ∃ l2 : List Int, Off [9, 49, 50, 51, 52, 53, 54, 55, 56, 57, 58, 59, 60] F42 fl ∧ (StE key l l2 ∧ Blk key (2 * z) l2) ∧ (Ar (gI .i64) wl b 3 o l2 n) ∧ (Exc b w wl)) ?_ ?_
              · have hoff44 := Off.refl [9, 49, 50, 51, 52, 53, 54, 55, 56, 57, 58, 59, 60] F42
                refine wseq ?_
                refine wregion ?_
                refine RL.val rfl rfl (by decide) (r_move_as (v := (.int .i64 (((e : Nat) : Int)))) ((hF43 7).trans hs33)) ?_
                refine RL.val rfl rfl (by decide) (r_move_as (v := (.int .i64 (((z : Nat) : Int)))) ((hF43 6).trans ((hoff32 6 rfl).trans ((hF29 6).trans hs26)))) ?_
                refine RL.val rfl rfl (by decide) (r_add (k := .i64) (a := ((e : Nat) : Int)) (b := ((z : Nat) : Int)) (c := ((e + z : Nat) : Int)) rfl rfl ((wi64 (by omega)).trans (by omega))) ?_
                refine RL.val rfl rfl (by decide) (r_assign_as (v := (.int .i64 (((e + z : Nat) : Int)))) rfl) ?_
                refine RL.nil ?_
                refine wseq ?_
                refine wregion ?_
                refine RL.val rfl rfl (by decide) (r_move_as (v := (.int .i64 (((e + z : Nat) : Int)))) rfl) ?_
                refine RL.val rfl rfl (by decide) (r_move_as (v := (.int .i64 (((n : Nat) : Int)))) ((hF43 1).trans ((hoff32 1 rfl).trans ((hF29 1).trans ((hoff25 1 rfl).trans ((hF22 1).trans ((hoff5 1 rfl).trans ((hF2 1).trans (hF0 1))))))))) ?_
                refine RL.val rfl rfl (by decide) (r_lss (k := .i64) (a := ((e + z : Nat) : Int)) (b := ((n : Nat) : Int)) rfl rfl) ?_
                refine RL.nil ?_
                refine wcond (b := decide (((e + z : Nat) : Int) < ((n : Nat) : Int))) rfl (fun hb45 => ?_) (fun hb45 => ?_)
                · have hb45p := hb45
                  replace hb45p := of_decide_eq_true hb45p
                  refine wregion ?_
                  refine RL.val rfl rfl (by decide) (r_move_as (v := (.slice (some ⟨b, o, none⟩) (n) (cap))) ((hF43 0).trans ((hoff32 0 rfl).trans ((hF29 0).trans ((hoff25 0 rfl).trans ((hF22 0).trans ((hoff5 0 rfl).trans ((hF2 0).trans (hF0 0))))))))) ?_
                  refine RL.val rfl rfl (by decide) (r_move_as (v := (.int .i64 (((e : Nat) : Int)))) ((hF43 7).trans hs33)) ?_
                  refine RL.val rfl rfl (by decide) (r_move_as (v := (.int .i64 (((e + z : Nat) : Int)))) rfl) ?_
                  refine RL.val rfl rfl (by decide) (r_move_as (v := (.int .i64 (((n : Nat) : Int)))) ((hF43 1).trans ((hoff32 1 rfl).trans ((hF29 1).trans ((hoff25 1 rfl).trans ((hF22 1).trans ((hoff5 1 rfl).trans ((hF2 1).trans (hF0 1))))))))) ?_
                  refine RL.val rfl rfl (by decide) (r_move_as (v := (.func (.func kc) #[] cl.toArray)) ((hF43 2).trans ((hoff32 2 rfl).trans ((hF29 2).trans ((hoff25 2 rfl).trans ((hF22 2).trans ((hoff5 2 rfl).trans ((hF2 2).trans (hF0 2))))))))) ?_
                  refine RL.call rfl rfl (by decide) (r_call (vl := [(.slice (some ⟨b, o, none⟩) (n) (cap)), (.int .i64 (((e : Nat) : Int))), (.int .i64 (((e + z : Nat) : Int))), (.int .i64 (((n : Nat) : Int))), (.func (.func kc) #[] cl.toArray)]) ent35 rfl) (symMerge_all hent hcmp hsz _ _ _ _ D ((l.drop e).take z) (l.drop (e + z)) ([]) _ ((show D ++ l.drop e = D ++ (l.drop e).take z ++ l.drop (e + z) ++ [] by rw [List.append_nil]; exact seg_split _ _ _ _) ▸ ha) (by omega) (by simp; omega) (by simp; omega) (by simp; omega) (by simp; omega) (hlb.at (twice hd)) (hlb.rest (next_mul (twice hd)) (by omega)) (fun x hx => hokl x ((List.mem_append.1 hx).elim (fun h => List.mem_of_mem_drop (List.mem_of_mem_take h)) (fun h => List.mem_of_mem_drop ( h)))) (hw0.trans hE) (Nat.le_refl _)) ?_
                  rintro _ w46 ⟨rfl, ⟨M49, ha47, hs50, ht51⟩, hx48⟩
                  replace hE := hE.trans hx48
                  replace ha := ha47
                  refine RL.nil ?_
                  refine ⟨D ++ M49, ?_, ?_, ?_, ?_⟩
                  · exact (by repeat (first | exact hoff44 | refine Off.st ?_ (by decide) _ | refine Off.via hoff32 (by decide) ?_ | refine Off.eq hF29 ?_ | refine Off.via hoff25 (by decide) ?_ | refine Off.eq hF22 ?_ | refine Off.via hoff5 (by decide) ?_ | refine Off.eq hF2 ?_))
                  · refine ⟨?_, hDb.snoc (by rw [hDl]; exact hd) hs50 (by have := ht51.length; simp at this; omega)⟩
                    have e1 : l = l.take e ++ ((l.drop e).take z ++ l.drop (e + z)) := by rw [← List.drop_drop, List.take_append_drop, List.take_append_drop]
                    rw [e1]; exact StE.append hDs ht51
                  · simpa using ha
                  · exact hE
                · have hb45p := hb45
                  replace hb45p := of_decide_eq_false hb45p
                  refine wskip ?_
                  refine ⟨D ++ l.drop e, ?_, ?_, ?_, ?_⟩
                  · exact (by repeat (first | exact hoff44 | refine Off.st ?_ (by decide) _ | refine Off.via hoff32 (by decide) ?_ | refine Off.eq hF29 ?_ | refine Off.via hoff25 (by decide) ?_ | refine Off.eq hF22 ?_ | refine Off.via hoff5 (by decide) ?_ | refine Off.eq hF2 ?_))
                  · refine ⟨?_, hDb.snoc (by rw [hDl]; exact hd) (hlb.rest (twice hd) (by omega)) (by simp; omega)⟩
                    have e1 := StE.append hDs (StE.refl key (l.drop e))
                    rw [List.take_append_drop] at e1; exact e1
                  · simpa using ha
                  · exact hE
              · clear ha hE
                rintro f52 w53 ⟨l2, hoff54, hl2, ha, hE⟩
                refine wregion ?_
                refine RL.val rfl rfl (by decide) (r_move_as (v := (.int .i64 (((z : Nat) : Int)))) ((hoff54 6 rfl).trans ((hF43 6).trans ((hoff32 6 rfl).trans ((hF29 6).trans hs26))))) ?_
                refine RL.val rfl rfl (by decide) (r_mul (k := .i64) (a := ((z : Nat) : Int)) (b := 2) (c := ((2 * z : Nat) : Int)) rfl rfl ((wi64 (by omega)).trans (by omega))) ?_
                refine RL.val rfl rfl (by decide) (r_assign_as (v := (.int .i64 (((2 * z : Nat) : Int)))) rfl) ?_
                refine RL.nil ?_
                refine ⟨(2 * z, l2), ⟨?_, ?_, ?_, ?_, ?_, ?_, ?_⟩, ?_⟩
                · exact (by repeat (first | exact hoff25 | refine Off.st ?_ (by decide) _ | refine Off.via hoff54 (by decide) ?_ | refine Off.eq hF43 ?_ | refine Off.via hoff32 (by decide) ?_ | refine Off.eq hF29 ?_ | refine Off.via hoff5 (by decide) ?_ | refine Off.eq hF2 ?_))
                · first | rfl | exact int_eq (by omega) | exact bool_eq (by simp)
                · omega
                · exact hls.trans hl2.1
                · exact hl2.2
                · exact ha
                · exact hE
                · (try dsimp only)
                  omega
        · have hb27p := hb27
          replace hb27p := of_decide_eq_false hb27p
          refine wexit ?_
          refine ⟨[], trivial, ?_⟩
          have hl0 := hlb.all (by omega)
          exact ⟨rfl, ⟨l, ha, hl0, hls⟩, hE⟩

set_option maxHeartbeats 1000000 in
theorem sortStable_int {b o n cap : Nat} {xs : List Int} {w : World} {kc : Nat} {cl : List Value} {key : Int → Int} {ok : Int → Prop} {w0 : World} (hent : Ent Try.prog kc) (hcmp : CmpOk Try.prog kc cl (gI .i64) key ok b w0) (hw0 : Exc b w0 w) (ha : Ar (gI .i64) w b 3 o xs n) (hsz : n ≤ 4611686018427387903) (hok : ∀ x ∈ xs, ok x) :
    Calls Try.prog 9 #[(.slice (some ⟨b, o, none⟩) (n) (cap)), (.func (.func kc) #[] cl.toArray)] w fun e w' => ∃ v, e = .returned v ∧ v = .tuple #[] ∧ (∃ l, Ar (gI .i64) w' b 3 o l n ∧ Srt key l ∧ StE key xs l) ∧ Exc b w w' := by
  have hE : Exc b w w := Exc.of_ext (Ext.refl _)
  refine calls_of (n := 9) (rs := []) Try.func9 rfl rfl rfl (Nat.le_of_ble_eq_true rfl) ?_
  refine wset fun F0 hF0 => ?_
  refine wregion ?_
  refine RL.val rfl rfl (by decide) (r_move_as (v := (.slice (some ⟨b, o, none⟩) (n) (cap))) (hF0 0)) ?_
  refine RL.val rfl rfl (by decide) (r_move_as (v := (.slice (some ⟨b, o, none⟩) (n) (cap))) (hF0 0)) ?_
  refine RL.val rfl rfl (by decide) (r_len Try.underlying26 rfl) ?_
  refine RL.val rfl rfl (by decide) (r_move_as (v := (.func (.func kc) #[] cl.toArray)) (hF0 1)) ?_
  refine RL.call rfl rfl (by decide) (r_call (vl := [(.slice (some ⟨b, o, none⟩) (n) (cap)), (.int .i64 (((n : Nat) : Int))), (.func (.func kc) #[] cl.toArray)]) ent18 rfl) (stable_int hent hcmp hw0 ha hsz hok) ?_
  rintro _ w1 ⟨rfl, hl, hx⟩
  refine RL.nil ?_
  refine ⟨[], trivial, ?_⟩
  exact ⟨rfl, hl, hx⟩

end Go.Proofs.Ytppgppnkhpjlpaa
