/- Walks, printed by program. -/
import Derived.Test.YtppgppnkhpjlpaaRk
import Derived.Test.YtppgppnkhpjlpaaWe
import Derived.Test.YtppgppnkhpjlpaaMreg
namespace Go.Proofs.Ytppgppnkhpjlpaa
open Go.Vg Go.RowKit
set_option linter.unusedVariables false

open Go.Vm

theorem lst_rng {ls : List (Int × Int)} {dn : List Bool} {k : Nat} {b : Int} (h : Lst ls dn k b) : -1 ≤ b ∧ b < k := by
  rcases h with ⟨h1, _⟩ | ⟨c, h1, h2, _⟩ <;> omega
theorem lst_in {ls : List (Int × Int)} {dn : List Bool} {k : Nat} {b : Int} (h : Lst ls dn k b) (hb : ¬ b < 0) : b = ((b.toNat : Nat) : Int) ∧ b.toNat < k := by
  rcases h with ⟨h1, _⟩ | ⟨c, h1, h2, _⟩ <;> omega
theorem part_rng {ls : List (Int × Int)} (hls : ∀ p ∈ ls, 0 ≤ p.1 ∧ p.1 ≤ 1048576) (hn : ls.length ≤ 32) (need m : Int) : 0 ≤ partOf ls need m ∧ partOf ls need m ≤ 33554432 := by
  have hS := sumA_nonneg hls (G := grp ls m) fun i hi => mem_idx.1 (List.mem_filter.1 hi).1
  have hl : (grp ls m).length ≤ ls.length := Nat.le_trans (List.length_filter_le _ _) (by rw [length_idx]; exact Nat.le_refl _)
  unfold partOf
  omega
theorem rnd_bd {ls : List (Int × Int)} {need nd : Int} {dn : List Bool} {C : List Int} {k : Nat} (hls : ∀ p ∈ ls, 0 ≤ p.1 ∧ p.1 ≤ 1048576) (hn : ls.length ≤ 32) (h : Rnd ls need nd dn C) (hk : k < ls.length) : 0 ≤ C.getD k default ∧ C.getD k default ≤ 35184372088833 := by
  rw [h.at_ k hk]
  by_cases hd : dn.getD k default = true
  · rw [if_pos hd]; unfold cutF; exact cutG_bd hls hn (part_rng hls hn need _) (by omega)
  · rw [if_neg hd]; omega
theorem al_bd {ls : List (Int × Int)} {x m cut : Int} {k : Nat} (hls : ∀ p ∈ ls, 0 ≤ p.1 ∧ p.1 ≤ 1048576) (hn : ls.length ≤ 32) (h : x = if me ls ((k : Nat) : Int) = m then cutG ls (grp ls m) cut k else 0) (hc : 0 ≤ cut ∧ cut ≤ 33554432) (hk : k < ls.length) : 0 ≤ x ∧ x ≤ 35184372088833 := by
  rw [h]
  by_cases hd : me ls ((k : Nat) : Int) = m
  · rw [if_pos hd]; exact cutG_bd hls hn hc (by omega)
  · rw [if_neg hd]; omega

set_option maxHeartbeats 8000000 in
theorem r43_curtail {D : Nat → TypeId → Prop} {vl : Value} {ls : List (Int × Int)} {need : Int} {w : World} (hl0 : Ss loadC 2 D w vl ls) :
    Calls Try.prog 6 #[vl, (.int .i64 (need))] w fun e w' => ∃ v, e = .returned v ∧ CurtPost ls need w w' v ∧ Ext w w' := by
  have hE : Below w.heap.size w w := Below.refl _ _
  have hl := hl0.old
  clear hl0
  have hlo := Nat.le_refl w.heap.size
  refine calls_of (n := 181) (rs := [.tmp 4, .tmp 5]) Try.func6 rfl rfl rfl (Nat.le_of_ble_eq_true rfl) ?_
  refine wset fun F0 hF0 => ?_
  refine wseq ?_
  refine wregion ?_
  refine RL.val rfl rfl (by decide) (r_assign_as (v := (.slice none (0) (0))) rfl) ?_
  refine RL.val rfl rfl (by decide) (r_assign_as (v := (.int .i64 (0))) rfl) ?_
  refine RL.nil ?_
  refine wseq ?_
  refine wseq ?_
  refine wregion ?_
  refine RL.val rfl rfl (by decide) (r_move_as (v := vl) (hF0 0)) ?_
  obtain ⟨A1, c2, hv3, hc4, hc5⟩ := hl.len
  refine RL.val rfl rfl (by decide) (r_len Try.underlying22 hv3) ?_
  refine RL.val rfl rfl (by decide) (r_gtr (k := .i64) (a := ((ls.length : Nat) : Int)) (b := 32) rfl rfl) ?_
  refine RL.nil ?_
  refine wcond (b := decide (32 < ((ls.length : Nat) : Int))) rfl (fun hb6 => ?_) (fun hb6 => ?_)
  · have hb6p := hb6
    replace hb6p := of_decide_eq_true hb6p
    refine wseq ?_
    refine wregion ?_
    refine RL.val rfl rfl (by decide) (r_assign_as (v := (.slice none (0) (0))) rfl) ?_
    refine RL.val rfl rfl (by decide) (r_assign_as (v := (.int .i64 (8))) rfl) ?_
    refine RL.nil ?_
    refine wret ?_
    refine ⟨[(.slice none (0) (0)), (.int .i64 (8))], ⟨rfl, ⟨rfl, trivial⟩⟩, ?_⟩
    exact ⟨.inl ⟨by unfold curtE; rw [if_pos (by omega)]; decide, by unfold curtE; rw [if_pos (by omega)]; rfl⟩, hE⟩
  · have hb6p := hb6
    replace hb6p := of_decide_eq_false hb6p
    refine wskip ?_
    refine wseq ?_
    refine wregion ?_
    refine RL.val rfl rfl (by decide) (r_assign_as (v := (.int .i64 (0))) rfl) ?_
    refine RL.nil ?_
    refine wseq ?_
    refine wseq ?_
    refine wregion ?_
    refine RL.val rfl rfl (by decide) (r_assign_as (v := (.int .i64 (0))) rfl) ?_
    refine RL.nil ?_
    refine wblock ?_
    refine wset fun F7 hF8 => ?_
    refine wloop (σ := Nat) (fun (k : Nat) fl wl => Off [4, 5, 6, 7, 25, 26, 27, 28, 29, 30, 31, 32, 33, 34, 35, 36, 37, 38, 39, 40, 41, 42, 43, 44, 45, 46, 47, 48, 49, 50, 51] F7 fl ∧ fl 7 = (.int .i64 (((k : Nat) : Int))) ∧ fl 6 = (.int .i64 (sumP (ls.take k))) ∧ (k ≤ ls.length) ∧ (∀ p ∈ ls.take k, 0 ≤ p.1 ∧ p.1 ≤ 1048576) ∧ (0 ≤ sumP (ls.take k) ∧ sumP (ls.take k) ≤ k * 1048576) ∧ (Ss loadC 2 (fun b T => D b T ∧ b < w.heap.size) wl vl ls) ∧ (Below w.heap.size w wl)) (fun (k : Nat) => ls.length - k) (0) ?_ ?_
    · exact ⟨Off.refl _ _, (hF8 7).trans (rfl), (hF8 6).trans ((int_eq (by simp [sumP]))), Nat.zero_le _, by simp, by simp [sumP], hl, hE⟩
    · clear hl hE
      rintro k f9 w10 ⟨hoff11, hs12, hs13, hk, hlk, hsk, hl, hE⟩
      refine wseq ?_
      refine wseq ?_
      refine wregion ?_
      refine RL.val rfl rfl (by decide) (r_move_as (v := (.int .i64 (((k : Nat) : Int)))) hs12) ?_
      refine RL.val rfl rfl (by decide) (r_move_as (v := vl) ((hoff11 0 rfl).trans ((hF8 0).trans (hF0 0)))) ?_
      refine RL.val rfl rfl (by decide) (r_len Try.underlying22 hv3) ?_
      refine RL.val rfl rfl (by decide) (r_lss (k := .i64) (a := ((k : Nat) : Int)) (b := ((ls.length : Nat) : Int)) rfl rfl) ?_
      refine RL.nil ?_
      refine wcond (b := decide (((k : Nat) : Int) < ((ls.length : Nat) : Int))) rfl (fun hb14 => ?_) (fun hb14 => ?_)
      · have hb14p := hb14
        replace hb14p := of_decide_eq_true hb14p
        refine wskip ?_
        refine wseq ?_
        refine wblock ?_
        refine wseq ?_
        refine wseq ?_
        have hkl : k < ls.length := by omega
        refine wregion ?_
        refine RL.val rfl rfl (by decide) (r_move_as (v := vl) ((hoff11 0 rfl).trans ((hF8 0).trans (hF0 0)))) ?_
        refine RL.val rfl rfl (by decide) (r_move_as (v := (.int .i64 (((k : Nat) : Int)))) hs12) ?_
        obtain ⟨b15, o16, c17, hv18, hc19⟩ := hl.ix (i := ((k : Nat) : Int)) (k) (by omega) (by omega)
        refine RL.val rfl rfl (by decide) (r_indexAddr (i := ((k : Nat) : Int)) Try.underlying22 ty25 hv18 rfl (by omega) (by omega)) ?_
        refine RL.val rfl rfl (by decide) (r_fieldAddr Try.underlying25 rfl ty3 rfl) ?_
        refine RL.val rfl rfl (by decide) (r_load (v := (.int .i64 ((ls.getD (k) default).1))) Try.underlying3 ag3 rfl (hc19 0 _ rfl)) ?_
        refine RL.val rfl rfl (by decide) (r_lss (k := .i64) (a := (ls.getD (k) default).1) (b := 0) rfl rfl) ?_
        refine RL.val rfl rfl (by decide) (r_move_as (v := (.bool (decide (((ls.getD (k) default).1) < 0)))) rfl) ?_
        rcases Bool.eq_false_or_eq_true (decide (((ls.getD (k) default).1) < 0)) with hb20 | hb20
        · have hb20p := hb20
          replace hb20p := of_decide_eq_true hb20p
          refine RL.gno rfl rfl (bool_eq hb20) rfl (by decide) ?_
          refine RL.gno rfl rfl (bool_eq hb20) rfl (by decide) ?_
          refine RL.gno rfl rfl (bool_eq hb20) rfl (by decide) ?_
          refine RL.gno rfl rfl (bool_eq hb20) rfl (by decide) ?_
          refine RL.gno rfl rfl (bool_eq hb20) rfl (by decide) ?_
          refine RL.gno rfl rfl (bool_eq hb20) rfl (by decide) ?_
          refine RL.val rfl rfl (by decide) (r_pick_t (v := (.bool (true))) (bool_eq hb20) rfl) ?_
          refine RL.nil ?_
          refine wcond_t rfl ?_
          refine wseq ?_
          refine wregion ?_
          refine RL.val rfl rfl (by decide) (r_assign_as (v := (.slice none (0) (0))) rfl) ?_
          refine RL.val rfl rfl (by decide) (r_assign_as (v := (.int .i64 (3))) rfl) ?_
          refine RL.nil ?_
          refine wret ?_
          refine ⟨[(.slice none (0) (0)), (.int .i64 (3))], ⟨rfl, ⟨rfl, trivial⟩⟩, ?_⟩
          have hce : curtE ls need = 3 := by unfold curtE; rw [if_neg (by omega), if_neg (fun h => by have := h (ls.getD k default) (getD_mem _ _ (by omega)); omega)]
          exact ⟨.inl ⟨by rw [hce]; decide, by rw [hce]; rfl⟩, hE⟩
        · have hb20p := hb20
          replace hb20p := of_decide_eq_false hb20p
          refine RL.gval rfl rfl (bool_eq hb20) rfl (by decide) (r_move_as (v := vl) ((hoff11 0 rfl).trans ((hF8 0).trans (hF0 0)))) ?_
          refine RL.gval rfl rfl (bool_eq hb20) rfl (by decide) (r_move_as (v := (.int .i64 (((k : Nat) : Int)))) hs12) ?_
          obtain ⟨b21, o22, c23, hv24, hc25⟩ := hl.ix (i := ((k : Nat) : Int)) (k) (by omega) (by omega)
          refine RL.gval rfl rfl (bool_eq hb20) rfl (by decide) (r_indexAddr (i := ((k : Nat) : Int)) Try.underlying22 ty25 hv24 rfl (by omega) (by omega)) ?_
          refine RL.gval rfl rfl (bool_eq hb20) rfl (by decide) (r_fieldAddr Try.underlying25 rfl ty3 rfl) ?_
          refine RL.gval rfl rfl (bool_eq hb20) rfl (by decide) (r_load (v := (.int .i64 ((ls.getD (k) default).1))) Try.underlying3 ag3 rfl (hc25 0 _ rfl)) ?_
          refine RL.gval rfl rfl (bool_eq hb20) rfl (by decide) (r_gtr (k := .i64) (a := (ls.getD (k) default).1) (b := 1048576) rfl rfl) ?_
          refine RL.val rfl rfl (by decide) (r_pick_f (v := (.bool (decide (1048576 < ((ls.getD (k) default).1))))) (bool_eq hb20) rfl) ?_
          refine RL.nil ?_
          refine wcond (b := decide (1048576 < ((ls.getD (k) default).1))) rfl (fun hb26 => ?_) (fun hb26 => ?_)
          · have hb26p := hb26
            replace hb26p := of_decide_eq_true hb26p
            refine wseq ?_
            refine wregion ?_
            refine RL.val rfl rfl (by decide) (r_assign_as (v := (.slice none (0) (0))) rfl) ?_
            refine RL.val rfl rfl (by decide) (r_assign_as (v := (.int .i64 (3))) rfl) ?_
            refine RL.nil ?_
            refine wret ?_
            refine ⟨[(.slice none (0) (0)), (.int .i64 (3))], ⟨rfl, ⟨rfl, trivial⟩⟩, ?_⟩
            have hce : curtE ls need = 3 := by unfold curtE; rw [if_neg (by omega), if_neg (fun h => by have := h (ls.getD k default) (getD_mem _ _ (by omega)); omega)]
            exact ⟨.inl ⟨by rw [hce]; decide, by rw [hce]; rfl⟩, hE⟩
          · have hb26p := hb26
            replace hb26p := of_decide_eq_false hb26p
            refine wskip ?_
            refine wregion ?_
            refine RL.val rfl rfl (by decide) (r_move_as (v := (.int .i64 (sumP (ls.take k)))) hs13) ?_
            refine RL.val rfl rfl (by decide) (r_move_as (v := vl) ((hoff11 0 rfl).trans ((hF8 0).trans (hF0 0)))) ?_
            refine RL.val rfl rfl (by decide) (r_move_as (v := (.int .i64 (((k : Nat) : Int)))) hs12) ?_
            obtain ⟨b27, o28, c29, hv30, hc31⟩ := hl.ix (i := ((k : Nat) : Int)) (k) (by omega) (by omega)
            refine RL.val rfl rfl (by decide) (r_indexAddr (i := ((k : Nat) : Int)) Try.underlying22 ty25 hv30 rfl (by omega) (by omega)) ?_
            refine RL.val rfl rfl (by decide) (r_fieldAddr Try.underlying25 rfl ty3 rfl) ?_
            refine RL.val rfl rfl (by decide) (r_load (v := (.int .i64 ((ls.getD (k) default).1))) Try.underlying3 ag3 rfl (hc31 0 _ rfl)) ?_
            refine RL.val rfl rfl (by decide) (r_add (k := .i64) (a := sumP (ls.take k)) (b := (ls.getD (k) default).1) (c := (sumP (ls.take k)) + ((ls.getD (k) default).1)) rfl rfl (wi64 (by omega))) ?_
            refine RL.val rfl rfl (by decide) (r_assign_as (v := (.int .i64 ((sumP (ls.take k)) + ((ls.getD (k) default).1)))) rfl) ?_
            refine RL.nil ?_
            refine wregion ?_
            refine RL.val rfl rfl (by decide) (r_move_as (v := (.int .i64 (((k : Nat) : Int)))) hs12) ?_
            refine RL.val rfl rfl (by decide) (r_add (k := .i64) (a := ((k : Nat) : Int)) (b := 1) (c := ((k : Nat) : Int) + 1) rfl rfl (wi64 (by omega))) ?_
            refine RL.val rfl rfl (by decide) (r_assign_as (v := (.int .i64 (((k : Nat) : Int) + 1))) rfl) ?_
            refine RL.nil ?_
            refine ⟨(k + 1), ⟨?_, ?_, ?_, ?_, ?_, ?_, ?_, ?_⟩, ?_⟩
            · exact (by repeat (first | exact hoff11 | refine Off.st ?_ (by decide) _))
            · first | rfl | exact int_eq (by omega) | exact bool_eq (by simp)
            · exact int_eq (by rw [take_snoc ls k hkl, sumP_snoc])
            · omega
            · rw [take_snoc ls k hkl]; intro p hp; rcases List.mem_append.1 hp with hp | hp; exact hlk p hp; simp at hp; subst hp; exact ⟨by simp at *; omega, by simp at *; omega⟩
            · rw [take_snoc ls k hkl, sumP_snoc]; omega
            · exact hl
            · exact hE
            · (try dsimp only)
              omega
      · have hb14p := hb14
        replace hb14p := of_decide_eq_false hb14p
        refine wexit ?_
        refine wseq ?_
        refine wseq ?_
        have hls : ∀ p ∈ ls, 0 ≤ p.1 ∧ p.1 ≤ 1048576 := by rw [List.take_of_length_le (show ls.length ≤ k by omega)] at hlk; exact hlk
        have hsP : sumP (ls.take k) = sumP ls := by rw [List.take_of_length_le (by omega)]
        have hsumb : 0 ≤ sumP ls ∧ sumP ls ≤ 33554432 := by rw [hsP] at hsk; omega
        refine wregion ?_
        refine RL.val rfl rfl (by decide) (r_move_as (v := (.int .i64 (need))) ((hoff11 1 rfl).trans ((hF8 1).trans (hF0 1)))) ?_
        refine RL.val rfl rfl (by decide) (r_lss (k := .i64) (a := need) (b := 0) rfl rfl) ?_
        refine RL.val rfl rfl (by decide) (r_move_as (v := (.bool (decide (need < 0)))) rfl) ?_
        rcases Bool.eq_false_or_eq_true (decide (need < 0)) with hb32 | hb32
        · have hb32p := hb32
          replace hb32p := of_decide_eq_true hb32p
          refine RL.gno rfl rfl (bool_eq hb32) rfl (by decide) ?_
          refine RL.gno rfl rfl (bool_eq hb32) rfl (by decide) ?_
          refine RL.gno rfl rfl (bool_eq hb32) rfl (by decide) ?_
          refine RL.val rfl rfl (by decide) (r_pick_t (v := (.bool (true))) (bool_eq hb32) rfl) ?_
          refine RL.nil ?_
          refine wcond_t rfl ?_
          refine wseq ?_
          refine wregion ?_
          refine RL.val rfl rfl (by decide) (r_assign_as (v := (.slice none (0) (0))) rfl) ?_
          refine RL.val rfl rfl (by decide) (r_assign_as (v := (.int .i64 (3))) rfl) ?_
          refine RL.nil ?_
          refine wret ?_
          refine ⟨[(.slice none (0) (0)), (.int .i64 (3))], ⟨rfl, ⟨rfl, trivial⟩⟩, ?_⟩
          have hce : curtE ls need = 3 := by unfold curtE; rw [if_neg (by omega), if_pos hls, if_pos (by omega)]
          exact ⟨.inl ⟨by rw [hce]; decide, by rw [hce]; rfl⟩, hE⟩
        · have hb32p := hb32
          replace hb32p := of_decide_eq_false hb32p
          refine RL.gval rfl rfl (bool_eq hb32) rfl (by decide) (r_move_as (v := (.int .i64 (need))) ((hoff11 1 rfl).trans ((hF8 1).trans (hF0 1)))) ?_
          refine RL.gval rfl rfl (bool_eq hb32) rfl (by decide) (r_move_as (v := (.int .i64 (sumP (ls.take k)))) hs13) ?_
          refine RL.gval rfl rfl (bool_eq hb32) rfl (by decide) (r_gtr (k := .i64) (a := need) (b := sumP (ls.take k)) rfl rfl) ?_
          refine RL.val rfl rfl (by decide) (r_pick_f (v := (.bool (decide ((sumP (ls.take k)) < need)))) (bool_eq hb32) rfl) ?_
          refine RL.nil ?_
          refine wcond (b := decide ((sumP (ls.take k)) < need)) rfl (fun hb33 => ?_) (fun hb33 => ?_)
          · have hb33p := hb33
            replace hb33p := of_decide_eq_true hb33p
            refine wseq ?_
            refine wregion ?_
            refine RL.val rfl rfl (by decide) (r_assign_as (v := (.slice none (0) (0))) rfl) ?_
            refine RL.val rfl rfl (by decide) (r_assign_as (v := (.int .i64 (3))) rfl) ?_
            refine RL.nil ?_
            refine wret ?_
            refine ⟨[(.slice none (0) (0)), (.int .i64 (3))], ⟨rfl, ⟨rfl, trivial⟩⟩, ?_⟩
            have hce : curtE ls need = 3 := by unfold curtE; rw [if_neg (by omega), if_pos hls, if_pos (by omega)]
            exact ⟨.inl ⟨by rw [hce]; decide, by rw [hce]; rfl⟩, hE⟩
          · have hb33p := hb33
            replace hb33p := of_decide_eq_false hb33p
            refine wskip ?_
            refine wset fun F34 hF35 => ?_
            refine wcut (fun fl wl => ∃ b39 : Nat, ∃ b45 : Nat, Off [8, 9, 59, 60, 61, 62, 63, 64] F34 fl ∧ fl 8 = (.slice (some ⟨b39, 0, none⟩) (ls.length) (ls.length)) ∧ fl 9 = (.slice (some ⟨b45, 0, none⟩) (ls.length) (ls.length)) ∧ (w.heap.size ≤ b39) ∧ (w.heap.size ≤ b45) ∧ (b39 ≠ b45) ∧ (Ss loadC 2 (fun b T => D b T ∧ b < w.heap.size) wl vl ls) ∧ (Below w.heap.size w wl) ∧ (Af (gI .i64) wl b39 3 (List.replicate (ls.length) (0 : Int)) ls.length) ∧ (Af gB wl b45 4 (List.replicate (ls.length) false) ls.length)) ?_ ?_
            · have hoff50 := Off.refl [8, 9, 59, 60, 61, 62, 63, 64] F34
              refine wdraw mixed fun w51 he52 => ?_
              replace hE := Below.ext hE hE.size he52
              refine RA.take 0 rfl (by kernel_rfl) rfl rfl (by decide) (fun _ => r_move_as (v := vl) ((hF35 0).trans ((hoff11 0 rfl).trans ((hF8 0).trans (hF0 0))))) ?_
              refine RA.take 1 rfl (by kernel_rfl) rfl rfl (by decide) (fun _ => r_len Try.underlying22 hv3) ?_
              refine RA.take 3 rfl (by kernel_rfl) rfl rfl (by decide) (fun _ => r_move_as (v := vl) ((hF35 0).trans ((hoff11 0 rfl).trans ((hF8 0).trans (hF0 0))))) ?_
              refine RA.take 4 rfl (by kernel_rfl) rfl rfl (by decide) (fun _ => r_len Try.underlying22 hv3) ?_
              refine RA.all [2, 5] (by kernel_rfl) rfl ?_
              have hn58 : (((ls.length : Nat) : Int) : Int) = ((ls.length : Nat) : Int) := by omega
              refine RS.run rfl rfl rfl (by decide) (h_make1 (n := ls.length) Try.underlying26 ty3 rfl (int_eq hn58) (int_eq hn58) (by omega) (by omega)) ?_ ?_
              · rintro _ w53 ⟨b54, rfl, hs57, hb56, he55⟩
                refine ⟨.inr (.inr he55), RA.more (S' := fun u => Ext _ u) (fun u hu => Ext.trans he55 hu) ?_⟩
                have ge_b54 : w.heap.size ≤ b54 := by rw [hs57]; exact hE.size
                replace hE := Below.ext hE hE.size he55
                replace hb56 := Af.made (g := (gI .i64)) (z := (0 : Int)) hb56 rfl
                refine RA.take 6 rfl (by kernel_rfl) rfl rfl (by decide) (fun _ => r_assign_as (v := (.slice (some ⟨b54, 0, none⟩) (ls.length) (ls.length))) rfl) ?_
                refine RA.all [5] (by kernel_rfl) rfl ?_
                have hn64 : (((ls.length : Nat) : Int) : Int) = ((ls.length : Nat) : Int) := by omega
                refine RS.run rfl rfl rfl (by decide) (h_make1 (n := ls.length) Try.underlying36 ty4 rfl (int_eq hn64) (int_eq hn64) (by omega) (by omega)) ?_ RS.nil
                rintro _ w59 ⟨b60, rfl, hs63, hb62, he61⟩
                refine ⟨.inr (.inr he61), RA.more (S' := fun u => Ext _ u) (fun u hu => Ext.trans he61 hu) ?_⟩
                have lt_b54_b60 := Nat.lt_of_lt_of_eq hb56.lt hs63.symm
                have ge_b60 : w.heap.size ≤ b60 := by rw [hs63]; exact hE.size
                replace hE := Below.ext hE hE.size he61
                replace hb62 := Af.made (g := gB) (z := false) hb62 rfl
                refine RA.take 7 rfl (by kernel_rfl) rfl rfl (by decide) (fun _ => r_assign_as (v := (.slice (some ⟨b60, 0, none⟩) (ls.length) (ls.length))) rfl) ?_
                refine RA.done (by kernel_rfl) ?_
                have hm65 := Ext.trans he52 (Ext.trans he55 he61)
                replace hl := hl.tr (Sm.ext hm65)
                replace hb56 := hb56.ext he61
                refine ⟨b54, b60, ?_, ?_, ?_, ?_, ?_, ?_, ?_, ?_, ?_, ?_⟩
                · exact (by repeat (first | exact hoff50 | refine Off.st ?_ (by decide) _ | refine Off.via hoff11 (by decide) ?_ | refine Off.eq hF8 ?_))
                · exact rfl
                · exact rfl
                · exact ge_b54
                · exact ge_b60
                · exact (Nat.ne_of_lt lt_b54_b60)
                · exact hl
                · exact hE
                · exact hb56
                · exact hb62
              · have hn71 : (((ls.length : Nat) : Int) : Int) = ((ls.length : Nat) : Int) := by omega
                refine RS.run rfl rfl rfl (by decide) (h_make1 (n := ls.length) Try.underlying36 ty4 rfl (int_eq hn71) (int_eq hn71) (by omega) (by omega)) ?_ RS.nil
                rintro _ w66 ⟨b67, rfl, hs70, hb69, he68⟩
                refine ⟨.inr (.inr he68), RA.more (S' := fun u => Ext _ u) (fun u hu => Ext.trans he68 hu) ?_⟩
                have ge_b67 : w.heap.size ≤ b67 := by rw [hs70]; exact hE.size
                replace hE := Below.ext hE hE.size he68
                replace hb69 := Af.made (g := gB) (z := false) hb69 rfl
                refine RA.all [2] (by kernel_rfl) rfl ?_
                have hn77 : (((ls.length : Nat) : Int) : Int) = ((ls.length : Nat) : Int) := by omega
                refine RS.run rfl rfl rfl (by decide) (h_make1 (n := ls.length) Try.underlying26 ty3 rfl (int_eq hn77) (int_eq hn77) (by omega) (by omega)) ?_ RS.nil
                rintro _ w72 ⟨b73, rfl, hs76, hb75, he74⟩
                refine ⟨.inr (.inr he74), RA.more (S' := fun u => Ext _ u) (fun u hu => Ext.trans he74 hu) ?_⟩
                have lt_b67_b73 := Nat.lt_of_lt_of_eq hb69.lt hs76.symm
                have ge_b73 : w.heap.size ≤ b73 := by rw [hs76]; exact hE.size
                replace hE := Below.ext hE hE.size he74
                replace hb75 := Af.made (g := (gI .i64)) (z := (0 : Int)) hb75 rfl
                refine RA.take 6 rfl (by kernel_rfl) rfl rfl (by decide) (fun _ => r_assign_as (v := (.slice (some ⟨b73, 0, none⟩) (ls.length) (ls.length))) rfl) ?_
                refine RA.take 7 rfl (by kernel_rfl) rfl rfl (by decide) (fun _ => r_assign_as (v := (.slice (some ⟨b67, 0, none⟩) (ls.length) (ls.length))) rfl) ?_
                refine RA.done (by kernel_rfl) ?_
                have hm78 := Ext.trans he52 (Ext.trans he68 he74)
                replace hl := hl.tr (Sm.ext hm78)
                replace hb69 := hb69.ext he74
                refine ⟨b73, b67, ?_, ?_, ?_, ?_, ?_, ?_, ?_, ?_, ?_, ?_⟩
                · exact (by repeat (first | exact hoff50 | refine Off.st ?_ (by decide) _ | refine Off.via hoff11 (by decide) ?_ | refine Off.eq hF8 ?_))
                · exact rfl
                · exact rfl
                · exact ge_b73
                · exact ge_b67
                · exact (Nat.ne_of_gt lt_b67_b73)
                · exact hl
                · exact hE
                · exact hb75
                · exact hb69
            · clear hl hE
              rintro f79 w80 ⟨b39, b45, hoff81, hs82, hs83, ge_b39, ge_b45, ne_b39_b45, hl, hE, hb41, hb47⟩
              refine wseq ?_
              refine wblock ?_
              refine wset fun F84 hF85 => ?_
              refine wloop (σ := Int × List Bool × List Int) (fun (s : Int × List Bool × List Int) fl wl => match s with | (nd, dn, C) => Off [1, 10, 11, 12, 13, 14, 15, 16, 17, 18, 19, 20, 21, 65, 66, 67, 68, 69, 70, 71, 72, 73, 74, 75, 76, 77, 78, 79, 80, 81, 82, 83, 84, 85, 86, 87, 88, 89, 90, 91, 92, 93, 94, 95, 96, 97, 98, 99, 100, 101, 102, 103, 104, 105, 106, 107, 108, 109, 110, 111, 112, 113, 114, 115, 116, 117, 118, 119, 120, 121, 122, 123, 124, 125, 126, 127, 128, 129, 130, 131, 132, 133, 134, 135, 136, 137, 138, 139, 140, 141, 142, 143, 144, 145, 146, 147, 148, 149, 150, 151, 152, 153, 154, 155, 156, 157, 158, 159, 160, 161, 162, 163, 164, 165, 166, 167, 168, 169, 170, 171, 172, 173, 174, 175, 176, 177, 178, 179] F84 fl ∧ fl 1 = (.int .i64 (nd)) ∧ (Rnd ls need nd dn C) ∧ (Af (gI .i64) wl b39 3 C ls.length) ∧ (Af gB wl b45 4 dn ls.length) ∧ (Ss loadC 2 (fun b T => D b T ∧ b < w.heap.size) wl vl ls) ∧ (Below w.heap.size w wl)) (fun (s : Int × List Bool × List Int) => match s with | (nd, dn, C) => leftN dn) (need, List.replicate ls.length false, List.replicate ls.length 0) ?_ ?_
              · exact ⟨Off.refl _ _, (hF85 1).trans ((((hoff81 1 rfl).trans ((hF35 1).trans ((hoff11 1 rfl).trans ((hF8 1).trans (hF0 1)))))).trans rfl), Rnd.start (by omega), hb41, hb47, hl, hE⟩
              · clear hl hE hb41 hb47
                rintro ⟨nd, dn, C⟩ f86 w87 ⟨hoff88, hs89, hR, hb41, hb47, hl, hE⟩
                refine wseq ?_
                refine wseq ?_
                refine wregion ?_
                refine RL.val rfl rfl (by decide) (r_move_as (v := (.int .i64 (nd))) hs89) ?_
                refine RL.val rfl rfl (by decide) (r_gtr (k := .i64) (a := nd) (b := 0) rfl rfl) ?_
                refine RL.nil ?_
                refine wcond (b := decide (0 < nd)) rfl (fun hb90 => ?_) (fun hb90 => ?_)
                · have hb90p := hb90
                  replace hb90p := of_decide_eq_true hb90p
                  have hnd0 : 0 < nd := hb90p
                  refine wskip ?_
                  refine wblock ?_
                  refine wseq ?_
                  refine wregion ?_
                  refine RL.val rfl rfl (by decide) (r_assign_as (v := (.int .i64 (-1))) rfl) ?_
                  refine RL.nil ?_
                  refine wseq ?_
                  refine wseq ?_
                  refine wregion ?_
                  refine RL.val rfl rfl (by decide) (r_assign_as (v := (.int .i64 (0))) rfl) ?_
                  refine RL.nil ?_
                  refine wblock ?_
                  refine wset fun F91 hF92 => ?_
                  refine wloop (σ := Nat × Int) (fun (s : Nat × Int) fl wl => match s with | (k, b) => Off [10, 11, 67, 68, 69, 70, 71, 72, 73, 74, 75, 76, 77, 78, 79, 80, 81, 82, 83, 84, 85, 86, 87, 88, 89, 90, 91, 92, 93, 94, 95] F91 fl ∧ fl 11 = (.int .i64 (((k : Nat) : Int))) ∧ fl 10 = (.int .i64 (b)) ∧ (k ≤ ls.length) ∧ (Lst ls dn k b) ∧ (Ss loadC 2 (fun b T => D b T ∧ b < w.heap.size) wl vl ls) ∧ (Below w.heap.size w wl) ∧ (Af (gI .i64) wl b39 3 C ls.length) ∧ (Af gB wl b45 4 dn ls.length)) (fun (s : Nat × Int) => match s with | (k, b) => ls.length - k) (0, -1) ?_ ?_
                  · exact ⟨Off.refl _ _, (hF92 11).trans (rfl), (hF92 10).trans (rfl), Nat.zero_le _, Lst.zero _ _, hl, hE, hb41, hb47⟩
                  · clear hl hE hb41 hb47
                    rintro ⟨k, b⟩ f93 w94 ⟨hoff95, hs96, hs97, hk, hL, hl, hE, hb41, hb47⟩
                    refine wseq ?_
                    refine wseq ?_
                    refine wregion ?_
                    refine RL.val rfl rfl (by decide) (r_move_as (v := (.int .i64 (((k : Nat) : Int)))) hs96) ?_
                    refine RL.val rfl rfl (by decide) (r_move_as (v := vl) ((hoff95 0 rfl).trans ((hF92 0).trans ((hoff88 0 rfl).trans ((hF85 0).trans ((hoff81 0 rfl).trans ((hF35 0).trans ((hoff11 0 rfl).trans ((hF8 0).trans (hF0 0)))))))))) ?_
                    refine RL.val rfl rfl (by decide) (r_len Try.underlying22 hv3) ?_
                    refine RL.val rfl rfl (by decide) (r_lss (k := .i64) (a := ((k : Nat) : Int)) (b := ((ls.length : Nat) : Int)) rfl rfl) ?_
                    refine RL.nil ?_
                    refine wcond (b := decide (((k : Nat) : Int) < ((ls.length : Nat) : Int))) rfl (fun hb98 => ?_) (fun hb98 => ?_)
                    · have hb98p := hb98
                      replace hb98p := of_decide_eq_true hb98p
                      refine wskip ?_
                      refine wseq ?_
                      refine wblock ?_
                      refine wseq ?_
                      have hkl : k < ls.length := by omega
                      have hLr := lst_rng hL
                      refine wdraw mixed fun w99 he100 => ?_
                      replace hE := Below.ext hE hE.size he100
                      refine RA.take 0 rfl (by kernel_rfl) rfl rfl (by decide) (fun _ => r_move_as (v := (.slice (some ⟨b45, 0, none⟩) (ls.length) (ls.length))) ((hoff95 9 rfl).trans ((hF92 9).trans ((hoff88 9 rfl).trans ((hF85 9).trans hs83))))) ?_
                      refine RA.take 1 rfl (by kernel_rfl) rfl rfl (by decide) (fun _ => r_move_as (v := (.int .i64 (((k : Nat) : Int)))) hs96) ?_
                      refine RA.take 2 rfl (by kernel_rfl) rfl rfl (by decide) (fun _ => r_indexAddr (i := ((k : Nat) : Int)) Try.underlying36 ty4 rfl rfl (by omega) (by omega)) ?_
                      replace hb47 := hb47.ext he100
                      have hc101 := hb47.cell (i := ((k : Nat) : Int)) (k) (by omega) (by omega)
                      refine RA.rd 3 rfl (by kernel_rfl) rfl rfl rfl (by decide) (Ext.refl _) (fun u hu => r_load (v := (.bool (dn.getD (k) default))) Try.underlying4 ag4 rfl (cell_ext hu hc101)) ?_
                      refine RA.take 4 rfl (by kernel_rfl) rfl rfl (by decide) (fun _ => r_not rfl) ?_
                      refine RA.take 5 rfl (by kernel_rfl) rfl rfl (by decide) (fun _ => r_move_as (v := (.bool (!(dn.getD (k) default)))) rfl) ?_
                      rcases Bool.eq_false_or_eq_true (!(dn.getD (k) default)) with hb102 | hb102
                      · have hb102p := hb102
                        have hdk : dn.getD k default = false := by simpa using hb102
                        refine RA.gtake 6 rfl (by kernel_rfl) rfl rfl (bool_eq hb102) rfl (by decide) (fun _ => r_move_as (v := (.int .i64 (b))) hs97) ?_
                        refine RA.gtake 7 rfl (by kernel_rfl) rfl rfl (bool_eq hb102) rfl (by decide) (fun _ => r_lss (k := .i64) (a := b) (b := 0) rfl rfl) ?_
                        refine RA.gtake 8 rfl (by kernel_rfl) rfl rfl (bool_eq hb102) rfl (by decide) (fun _ => r_move_as (v := (.bool (decide (b < 0)))) rfl) ?_
                        rcases Bool.eq_false_or_eq_true (decide (b < 0)) with hb103 | hb103
                        · have hb103p := hb103
                          replace hb103p := of_decide_eq_true hb103p
                          have hb0 : b < 0 := hb103p
                          refine RA.gno 9 rfl (by kernel_rfl) rfl rfl (.inl (bool_eq hb103)) rfl (by decide) ?_
                          refine RA.gno 10 rfl (by kernel_rfl) rfl rfl (.inl (bool_eq hb103)) rfl (by decide) ?_
                          refine RA.gno 11 rfl (by kernel_rfl) rfl rfl (.inl (bool_eq hb103)) rfl (by decide) ?_
                          refine RA.gno 12 rfl (by kernel_rfl) rfl rfl (.inl (bool_eq hb103)) rfl (by decide) ?_
                          refine RA.gno 13 rfl (by kernel_rfl) rfl rfl (.inl (bool_eq hb103)) rfl (by decide) ?_
                          refine RA.gno 14 rfl (by kernel_rfl) rfl rfl (.inl (bool_eq hb103)) rfl (by decide) ?_
                          refine RA.gno 15 rfl (by kernel_rfl) rfl rfl (.inl (bool_eq hb103)) rfl (by decide) ?_
                          refine RA.gno 16 rfl (by kernel_rfl) rfl rfl (.inl (bool_eq hb103)) rfl (by decide) ?_
                          refine RA.gno 17 rfl (by kernel_rfl) rfl rfl (.inl (bool_eq hb103)) rfl (by decide) ?_
                          refine RA.gno 18 rfl (by kernel_rfl) rfl rfl (.inl (bool_eq hb103)) rfl (by decide) ?_
                          refine RA.gno 19 rfl (by kernel_rfl) rfl rfl (.inl (bool_eq hb103)) rfl (by decide) ?_
                          refine RA.gtake 20 rfl (by kernel_rfl) rfl rfl (bool_eq hb102) rfl (by decide) (fun _ => r_pick_t (v := (.bool (true))) (bool_eq hb103) rfl) ?_
                          refine RA.take 21 rfl (by kernel_rfl) rfl rfl (by decide) (fun _ => r_pick_t (v := (.bool (true))) (bool_eq hb102) rfl) ?_
                          refine RA.done (by kernel_rfl) ?_
                          refine wcond_t rfl ?_
                          refine wregion ?_
                          refine RL.val rfl rfl (by decide) (r_move_as (v := (.int .i64 (((k : Nat) : Int)))) hs96) ?_
                          refine RL.val rfl rfl (by decide) (r_assign_as (v := (.int .i64 (((k : Nat) : Int)))) rfl) ?_
                          refine RL.nil ?_
                          refine wregion ?_
                          refine RL.val rfl rfl (by decide) (r_move_as (v := (.int .i64 (((k : Nat) : Int)))) hs96) ?_
                          refine RL.val rfl rfl (by decide) (r_add (k := .i64) (a := ((k : Nat) : Int)) (b := 1) (c := ((k : Nat) : Int) + 1) rfl rfl (wi64 (by omega))) ?_
                          refine RL.val rfl rfl (by decide) (r_assign_as (v := (.int .i64 (((k : Nat) : Int) + 1))) rfl) ?_
                          refine RL.nil ?_
                          replace hl := hl.tr (Sm.ext he100)
                          replace hb41 := hb41.ext he100
                          refine ⟨(k + 1, ((k : Nat) : Int)), ⟨?_, ?_, ?_, ?_, ?_, ?_, ?_, ?_, ?_⟩, ?_⟩
                          · exact (by repeat (first | exact hoff95 | refine Off.st ?_ (by decide) _ | refine Off.via hoff88 (by decide) ?_ | refine Off.eq hF85 ?_ | refine Off.via hoff81 (by decide) ?_ | refine Off.eq hF35 ?_ | refine Off.via hoff11 (by decide) ?_ | refine Off.eq hF8 ?_))
                          · first | rfl | exact int_eq (by omega) | exact bool_eq (by simp)
                          · first | rfl | exact int_eq (by omega) | exact bool_eq (by simp)
                          · omega
                          · first | exact hL.take hdk (.inl (by omega)) | exact hL.take hdk (.inr hcm)
                          · exact hl
                          · exact hE
                          · exact hb41
                          · exact hb47
                          · (try dsimp only)
                            omega
                        · have hb103p := hb103
                          replace hb103p := of_decide_eq_false hb103p
                          obtain ⟨hbt, hbk⟩ := lst_in hL hb103p
                          refine RA.gtake 9 rfl (by kernel_rfl) rfl rfl (bool_eq hb103) rfl (by decide) (fun _ => r_move_as (v := vl) ((hoff95 0 rfl).trans ((hF92 0).trans ((hoff88 0 rfl).trans ((hF85 0).trans ((hoff81 0 rfl).trans ((hF35 0).trans ((hoff11 0 rfl).trans ((hF8 0).trans (hF0 0)))))))))) ?_
                          refine RA.gtake 10 rfl (by kernel_rfl) rfl rfl (bool_eq hb103) rfl (by decide) (fun _ => r_move_as (v := (.int .i64 (((k : Nat) : Int)))) hs96) ?_
                          replace hl := hl.tr (Sm.ext he100)
                          obtain ⟨b104, o105, c106, hv107, hc108⟩ := hl.ix (i := ((k : Nat) : Int)) (k) (by omega) (by omega)
                          refine RA.gtake 11 rfl (by kernel_rfl) rfl rfl (bool_eq hb103) rfl (by decide) (fun _ => r_indexAddr (i := ((k : Nat) : Int)) Try.underlying22 ty25 hv107 rfl (by omega) (by omega)) ?_
                          refine RA.gtake 12 rfl (by kernel_rfl) rfl rfl (bool_eq hb103) rfl (by decide) (fun _ => r_fieldAddr Try.underlying25 rfl ty3 rfl) ?_
                          refine RA.grd 13 rfl (by kernel_rfl) rfl rfl rfl (bool_eq hb103) rfl (by decide) (Ext.refl _) (fun u hu => r_load (v := (.int .i64 (me ls ((k : Nat) : Int)))) Try.underlying3 ag3 rfl (cell_ext hu (hc108 1 _ rfl))) ?_
                          refine RA.gtake 14 rfl (by kernel_rfl) rfl rfl (bool_eq hb103) rfl (by decide) (fun _ => r_move_as (v := vl) ((hoff95 0 rfl).trans ((hF92 0).trans ((hoff88 0 rfl).trans ((hF85 0).trans ((hoff81 0 rfl).trans ((hF35 0).trans ((hoff11 0 rfl).trans ((hF8 0).trans (hF0 0)))))))))) ?_
                          refine RA.gtake 15 rfl (by kernel_rfl) rfl rfl (bool_eq hb103) rfl (by decide) (fun _ => r_move_as (v := (.int .i64 (b))) hs97) ?_
                          obtain ⟨b109, o110, c111, hv112, hc113⟩ := hl.ix (i := b) (b.toNat) (by omega) (by omega)
                          refine RA.gtake 16 rfl (by kernel_rfl) rfl rfl (bool_eq hb103) rfl (by decide) (fun _ => r_indexAddr (i := b) Try.underlying22 ty25 hv112 rfl (by omega) (by omega)) ?_
                          refine RA.gtake 17 rfl (by kernel_rfl) rfl rfl (bool_eq hb103) rfl (by decide) (fun _ => r_fieldAddr Try.underlying25 rfl ty3 rfl) ?_
                          refine RA.grd 18 rfl (by kernel_rfl) rfl rfl rfl (bool_eq hb103) rfl (by decide) (Ext.refl _) (fun u hu => r_load (v := (.int .i64 (me ls b))) Try.underlying3 ag3 rfl (cell_ext hu (hc113 1 _ rfl))) ?_
                          refine RA.gtake 19 rfl (by kernel_rfl) rfl rfl (bool_eq hb103) rfl (by decide) (fun _ => r_lss (k := .i64) (a := me ls ((k : Nat) : Int)) (b := me ls b) rfl rfl) ?_
                          refine RA.gtake 20 rfl (by kernel_rfl) rfl rfl (bool_eq hb102) rfl (by decide) (fun _ => r_pick_f (v := (.bool (decide ((me ls ((k : Nat) : Int)) < (me ls b))))) (bool_eq hb103) rfl) ?_
                          refine RA.take 21 rfl (by kernel_rfl) rfl rfl (by decide) (fun _ => r_pick_t (v := (.bool (decide ((me ls ((k : Nat) : Int)) < (me ls b))))) (bool_eq hb102) rfl) ?_
                          refine RA.done (by kernel_rfl) ?_
                          refine wcond (b := decide ((me ls ((k : Nat) : Int)) < (me ls b))) rfl (fun hb114 => ?_) (fun hb114 => ?_)
                          · have hb114p := hb114
                            replace hb114p := of_decide_eq_true hb114p
                            have hcm := hb114p
                            refine wregion ?_
                            refine RL.val rfl rfl (by decide) (r_move_as (v := (.int .i64 (((k : Nat) : Int)))) hs96) ?_
                            refine RL.val rfl rfl (by decide) (r_assign_as (v := (.int .i64 (((k : Nat) : Int)))) rfl) ?_
                            refine RL.nil ?_
                            refine wregion ?_
                            refine RL.val rfl rfl (by decide) (r_move_as (v := (.int .i64 (((k : Nat) : Int)))) hs96) ?_
                            refine RL.val rfl rfl (by decide) (r_add (k := .i64) (a := ((k : Nat) : Int)) (b := 1) (c := ((k : Nat) : Int) + 1) rfl rfl (wi64 (by omega))) ?_
                            refine RL.val rfl rfl (by decide) (r_assign_as (v := (.int .i64 (((k : Nat) : Int) + 1))) rfl) ?_
                            refine RL.nil ?_
                            replace hb41 := hb41.ext he100
                            refine ⟨(k + 1, ((k : Nat) : Int)), ⟨?_, ?_, ?_, ?_, ?_, ?_, ?_, ?_, ?_⟩, ?_⟩
                            · exact (by repeat (first | exact hoff95 | refine Off.st ?_ (by decide) _ | refine Off.via hoff88 (by decide) ?_ | refine Off.eq hF85 ?_ | refine Off.via hoff81 (by decide) ?_ | refine Off.eq hF35 ?_ | refine Off.via hoff11 (by decide) ?_ | refine Off.eq hF8 ?_))
                            · first | rfl | exact int_eq (by omega) | exact bool_eq (by simp)
                            · first | rfl | exact int_eq (by omega) | exact bool_eq (by simp)
                            · omega
                            · first | exact hL.take hdk (.inl (by omega)) | exact hL.take hdk (.inr hcm)
                            · exact hl
                            · exact hE
                            · exact hb41
                            · exact hb47
                            · (try dsimp only)
                              omega
                          · have hb114p := hb114
                            replace hb114p := of_decide_eq_false hb114p
                            have hcm := hb114p
                            refine wskip ?_
                            refine wregion ?_
                            refine RL.val rfl rfl (by decide) (r_move_as (v := (.int .i64 (((k : Nat) : Int)))) hs96) ?_
                            refine RL.val rfl rfl (by decide) (r_add (k := .i64) (a := ((k : Nat) : Int)) (b := 1) (c := ((k : Nat) : Int) + 1) rfl rfl (wi64 (by omega))) ?_
                            refine RL.val rfl rfl (by decide) (r_assign_as (v := (.int .i64 (((k : Nat) : Int) + 1))) rfl) ?_
                            refine RL.nil ?_
                            replace hb41 := hb41.ext he100
                            refine ⟨(k + 1, b), ⟨?_, ?_, ?_, ?_, ?_, ?_, ?_, ?_, ?_⟩, ?_⟩
                            · exact (by repeat (first | exact hoff95 | refine Off.st ?_ (by decide) _ | refine Off.via hoff88 (by decide) ?_ | refine Off.eq hF85 ?_ | refine Off.via hoff81 (by decide) ?_ | refine Off.eq hF35 ?_ | refine Off.via hoff11 (by decide) ?_ | refine Off.eq hF8 ?_))
                            · first | rfl | exact int_eq (by omega) | exact bool_eq (by simp)
                            · refine (hs97).trans ?_
                              first | rfl | exact int_eq (by omega) | exact bool_eq (by simp)
                            · omega
                            · first | exact hL.skip hdk | (rw [hbt] at hL ⊢; exact hL.keep (by rw [← hbt]; exact hcm))
                            · exact hl
                            · exact hE
                            · exact hb41
                            · exact hb47
                            · (try dsimp only)
                              omega
                      · have hb102p := hb102
                        have hdk : dn.getD k default = true := by simpa using hb102
                        refine RA.gno 6 rfl (by kernel_rfl) rfl rfl (.inl (bool_eq hb102)) rfl (by decide) ?_
                        refine RA.gno 7 rfl (by kernel_rfl) rfl rfl (.inl (bool_eq hb102)) rfl (by decide) ?_
                        refine RA.gno 8 rfl (by kernel_rfl) rfl rfl (.inl (bool_eq hb102)) rfl (by decide) ?_
                        refine RA.gno 9 rfl (by kernel_rfl) rfl rfl (.inr rfl) rfl (by decide) ?_
                        refine RA.gno 10 rfl (by kernel_rfl) rfl rfl (.inr rfl) rfl (by decide) ?_
                        refine RA.gno 11 rfl (by kernel_rfl) rfl rfl (.inr rfl) rfl (by decide) ?_
                        refine RA.gno 12 rfl (by kernel_rfl) rfl rfl (.inr rfl) rfl (by decide) ?_
                        refine RA.gno 13 rfl (by kernel_rfl) rfl rfl (.inr rfl) rfl (by decide) ?_
                        refine RA.gno 14 rfl (by kernel_rfl) rfl rfl (.inr rfl) rfl (by decide) ?_
                        refine RA.gno 15 rfl (by kernel_rfl) rfl rfl (.inr rfl) rfl (by decide) ?_
                        refine RA.gno 16 rfl (by kernel_rfl) rfl rfl (.inr rfl) rfl (by decide) ?_
                        refine RA.gno 17 rfl (by kernel_rfl) rfl rfl (.inr rfl) rfl (by decide) ?_
                        refine RA.gno 18 rfl (by kernel_rfl) rfl rfl (.inr rfl) rfl (by decide) ?_
                        refine RA.gno 19 rfl (by kernel_rfl) rfl rfl (.inr rfl) rfl (by decide) ?_
                        refine RA.gno 20 rfl (by kernel_rfl) rfl rfl (.inl (bool_eq hb102)) rfl (by decide) ?_
                        refine RA.take 21 rfl (by kernel_rfl) rfl rfl (by decide) (fun _ => r_pick_f (v := (.bool (false))) (bool_eq hb102) rfl) ?_
                        refine RA.done (by kernel_rfl) ?_
                        refine wcond_f rfl ?_
                        refine wskip ?_
                        refine wregion ?_
                        refine RL.val rfl rfl (by decide) (r_move_as (v := (.int .i64 (((k : Nat) : Int)))) hs96) ?_
                        refine RL.val rfl rfl (by decide) (r_add (k := .i64) (a := ((k : Nat) : Int)) (b := 1) (c := ((k : Nat) : Int) + 1) rfl rfl (wi64 (by omega))) ?_
                        refine RL.val rfl rfl (by decide) (r_assign_as (v := (.int .i64 (((k : Nat) : Int) + 1))) rfl) ?_
                        refine RL.nil ?_
                        replace hl := hl.tr (Sm.ext he100)
                        replace hb41 := hb41.ext he100
                        refine ⟨(k + 1, b), ⟨?_, ?_, ?_, ?_, ?_, ?_, ?_, ?_, ?_⟩, ?_⟩
                        · exact (by repeat (first | exact hoff95 | refine Off.st ?_ (by decide) _ | refine Off.via hoff88 (by decide) ?_ | refine Off.eq hF85 ?_ | refine Off.via hoff81 (by decide) ?_ | refine Off.eq hF35 ?_ | refine Off.via hoff11 (by decide) ?_ | refine Off.eq hF8 ?_))
                        · first | rfl | exact int_eq (by omega) | exact bool_eq (by simp)
                        · refine (hs97).trans ?_
                          first | rfl | exact int_eq (by omega) | exact bool_eq (by simp)
                        · omega
                        · first | exact hL.skip hdk | (rw [hbt] at hL ⊢; exact hL.keep (by rw [← hbt]; exact hcm))
                        · exact hl
                        · exact hE
                        · exact hb41
                        · exact hb47
                        · (try dsimp only)
                          omega
                    · have hb98p := hb98
                      replace hb98p := of_decide_eq_false hb98p
                      refine wexit ?_
                      refine wseq ?_
                      have hkn : k = ls.length := by omega
                      rw [hkn] at hL
                      have hneed : 0 ≤ need ∧ need ≤ sumP ls := by omega
                      obtain ⟨c, hbc, hcl, hcd, hmin⟩ := hL.fin hR.left hnd0 hneed.2
                      have hnb : nd ≤ 33554432 := by have := hR.left; have := (Rnd.sum_bd hls dn).1; omega
                      refine wregion ?_
                      refine RL.val rfl rfl (by decide) (r_move_as (v := vl) ((hoff95 0 rfl).trans ((hF92 0).trans ((hoff88 0 rfl).trans ((hF85 0).trans ((hoff81 0 rfl).trans ((hF35 0).trans ((hoff11 0 rfl).trans ((hF8 0).trans (hF0 0)))))))))) ?_
                      refine RL.val rfl rfl (by decide) (r_move_as (v := (.int .i64 (b))) hs97) ?_
                      obtain ⟨b115, o116, c117, hv118, hc119⟩ := hl.ix (i := b) (c) (by omega) (by omega)
                      refine RL.val rfl rfl (by decide) (r_indexAddr (i := b) Try.underlying22 ty25 hv118 rfl (by omega) (by omega)) ?_
                      refine RL.val rfl rfl (by decide) (r_fieldAddr Try.underlying25 rfl ty3 rfl) ?_
                      refine RL.val rfl rfl (by decide) (r_load (v := (.int .i64 (me ls ((c : Nat) : Int)))) Try.underlying3 ag3 rfl (hc119 1 _ rfl)) ?_
                      refine RL.val rfl rfl (by decide) (r_assign_as (v := (.int .i64 (me ls ((c : Nat) : Int)))) rfl) ?_
                      refine RL.val rfl rfl (by decide) (r_assign_as (v := (.int .i64 (0))) rfl) ?_
                      refine RL.nil ?_
                      refine wseq ?_
                      refine wseq ?_
                      refine wregion ?_
                      refine RL.val rfl rfl (by decide) (r_assign_as (v := (.int .i64 (0))) rfl) ?_
                      refine RL.nil ?_
                      refine wblock ?_
                      refine wset fun F120 hF121 => ?_
                      refine wloop (σ := Nat) (fun (k : Nat) fl wl => Off [13, 14, 101, 102, 103, 104, 105, 106, 107, 108, 109, 110, 111, 112, 113, 114, 115, 116, 117, 118, 119, 120, 121, 122, 123] F120 fl ∧ fl 14 = (.int .i64 (((k : Nat) : Int))) ∧ fl 13 = (.int .i64 (sK ls (me ls ((c : Nat) : Int)) k)) ∧ (k ≤ ls.length) ∧ (Af gB wl b45 4 (mark ls (me ls ((c : Nat) : Int)) dn k) ls.length) ∧ (Ss loadC 2 (fun b T => D b T ∧ b < w.heap.size) wl vl ls) ∧ (Below w.heap.size w wl) ∧ (Af (gI .i64) wl b39 3 C ls.length)) (fun (k : Nat) => ls.length - k) (0) ?_ ?_
                      · exact ⟨Off.refl _ _, (hF121 14).trans (rfl), (hF121 13).trans ((int_eq (by simp [sK, idx, sumA]))), Nat.zero_le _, (by rw [mark_zero]; exact hb47), hl, hE, hb41⟩
                      · clear hl hE hb41 hb47
                        rintro k f122 w123 ⟨hoff124, hs125, hs126, hk, hb47, hl, hE, hb41⟩
                        refine wseq ?_
                        refine wseq ?_
                        refine wregion ?_
                        refine RL.val rfl rfl (by decide) (r_move_as (v := (.int .i64 (((k : Nat) : Int)))) hs125) ?_
                        refine RL.val rfl rfl (by decide) (r_move_as (v := vl) ((hoff124 0 rfl).trans ((hF121 0).trans ((hoff95 0 rfl).trans ((hF92 0).trans ((hoff88 0 rfl).trans ((hF85 0).trans ((hoff81 0 rfl).trans ((hF35 0).trans ((hoff11 0 rfl).trans ((hF8 0).trans (hF0 0)))))))))))) ?_
                        refine RL.val rfl rfl (by decide) (r_len Try.underlying22 hv3) ?_
                        refine RL.val rfl rfl (by decide) (r_lss (k := .i64) (a := ((k : Nat) : Int)) (b := ((ls.length : Nat) : Int)) rfl rfl) ?_
                        refine RL.nil ?_
                        refine wcond (b := decide (((k : Nat) : Int) < ((ls.length : Nat) : Int))) rfl (fun hb127 => ?_) (fun hb127 => ?_)
                        · have hb127p := hb127
                          replace hb127p := of_decide_eq_true hb127p
                          refine wskip ?_
                          refine wseq ?_
                          refine wblock ?_
                          refine wseq ?_
                          have hkl : k < ls.length := by omega
                          have hskb := sK_bd hls (m := me ls ((c : Nat) : Int)) (k := k) (by omega)
                          have hamk : 0 ≤ am ls ((k : Nat) : Int) ∧ am ls ((k : Nat) : Int) ≤ 1048576 := hls _ (getD_mem _ _ hkl)
                          refine wregion ?_
                          refine RL.val rfl rfl (by decide) (r_move_as (v := vl) ((hoff124 0 rfl).trans ((hF121 0).trans ((hoff95 0 rfl).trans ((hF92 0).trans ((hoff88 0 rfl).trans ((hF85 0).trans ((hoff81 0 rfl).trans ((hF35 0).trans ((hoff11 0 rfl).trans ((hF8 0).trans (hF0 0)))))))))))) ?_
                          refine RL.val rfl rfl (by decide) (r_move_as (v := (.int .i64 (((k : Nat) : Int)))) hs125) ?_
                          obtain ⟨b128, o129, c130, hv131, hc132⟩ := hl.ix (i := ((k : Nat) : Int)) (k) (by omega) (by omega)
                          refine RL.val rfl rfl (by decide) (r_indexAddr (i := ((k : Nat) : Int)) Try.underlying22 ty25 hv131 rfl (by omega) (by omega)) ?_
                          refine RL.val rfl rfl (by decide) (r_fieldAddr Try.underlying25 rfl ty3 rfl) ?_
                          refine RL.val rfl rfl (by decide) (r_load (v := (.int .i64 (me ls ((k : Nat) : Int)))) Try.underlying3 ag3 rfl (hc132 1 _ rfl)) ?_
                          refine RL.val rfl rfl (by decide) (r_move_as (v := (.int .i64 (me ls ((c : Nat) : Int)))) ((hoff124 12 rfl).trans (hF121 12))) ?_
                          refine RL.val rfl rfl (by decide) (r_eql (k := .i64) (a := me ls ((k : Nat) : Int)) (b := me ls ((c : Nat) : Int)) rfl rfl) ?_
                          refine RL.nil ?_
                          refine wcond (b := decide ((me ls ((k : Nat) : Int)) = (me ls ((c : Nat) : Int)))) rfl (fun hb133 => ?_) (fun hb133 => ?_)
                          · have hb133p := hb133
                            replace hb133p := of_decide_eq_true hb133p
                            have hmk := hb133p
                            refine wregion ?_
                            refine RL.val rfl rfl (by decide) (r_move_as (v := (.slice (some ⟨b45, 0, none⟩) (ls.length) (ls.length))) ((hoff124 9 rfl).trans ((hF121 9).trans ((hoff95 9 rfl).trans ((hF92 9).trans ((hoff88 9 rfl).trans ((hF85 9).trans hs83))))))) ?_
                            refine RL.val rfl rfl (by decide) (r_move_as (v := (.int .i64 (((k : Nat) : Int)))) hs125) ?_
                            refine RL.val rfl rfl (by decide) (r_move_as (v := (.int .i64 (sK ls (me ls ((c : Nat) : Int)) k))) hs126) ?_
                            refine RL.val rfl rfl (by decide) (r_move_as (v := vl) ((hoff124 0 rfl).trans ((hF121 0).trans ((hoff95 0 rfl).trans ((hF92 0).trans ((hoff88 0 rfl).trans ((hF85 0).trans ((hoff81 0 rfl).trans ((hF35 0).trans ((hoff11 0 rfl).trans ((hF8 0).trans (hF0 0)))))))))))) ?_
                            refine RL.val rfl rfl (by decide) (r_move_as (v := (.int .i64 (((k : Nat) : Int)))) hs125) ?_
                            obtain ⟨b134, o135, c136, hv137, hc138⟩ := hl.ix (i := ((k : Nat) : Int)) (k) (by omega) (by omega)
                            refine RL.val rfl rfl (by decide) (r_indexAddr (i := ((k : Nat) : Int)) Try.underlying22 ty25 hv137 rfl (by omega) (by omega)) ?_
                            refine RL.val rfl rfl (by decide) (r_fieldAddr Try.underlying25 rfl ty3 rfl) ?_
                            refine RL.val rfl rfl (by decide) (r_load (v := (.int .i64 (am ls ((k : Nat) : Int)))) Try.underlying3 ag3 rfl (hc138 0 _ rfl)) ?_
                            refine RL.val rfl rfl (by decide) (r_add (k := .i64) (a := sK ls (me ls ((c : Nat) : Int)) k) (b := am ls ((k : Nat) : Int)) (c := (sK ls (me ls ((c : Nat) : Int)) k) + (am ls ((k : Nat) : Int))) rfl rfl (wi64 (by omega))) ?_
                            refine RL.val rfl rfl (by decide) (r_indexAddr (i := ((k : Nat) : Int)) Try.underlying36 ty4 rfl rfl (by omega) (by omega)) ?_
                            refine RL.runs rfl rfl (h_setF (g := gB) (vv := (.bool (true))) (u := true) (i := ((k : Nat) : Int)) ty4 rfl rfl rfl rfl rfl hb47 (k) (by omega) (by omega)) ?_
                            rintro w139 ⟨ha140, hx141⟩
                            replace hE := Below.exc hE hE.size hx141 ge_b45
                            have nb_hx141 := (hb47.nb (fun _ => rfl))
                            replace hb47 := ha140
                            refine RL.val rfl rfl (by decide) (r_assign_as (v := (.int .i64 ((sK ls (me ls ((c : Nat) : Int)) k) + (am ls ((k : Nat) : Int))))) rfl) ?_
                            refine RL.nil ?_
                            refine wregion ?_
                            refine RL.val rfl rfl (by decide) (r_move_as (v := (.int .i64 (((k : Nat) : Int)))) hs125) ?_
                            refine RL.val rfl rfl (by decide) (r_add (k := .i64) (a := ((k : Nat) : Int)) (b := 1) (c := ((k : Nat) : Int) + 1) rfl rfl (wi64 (by omega))) ?_
                            refine RL.val rfl rfl (by decide) (r_assign_as (v := (.int .i64 (((k : Nat) : Int) + 1))) rfl) ?_
                            refine RL.nil ?_
                            replace hl := hl.tr (Sm.exc hx141 (fun _ _ _ _ hd => absurd hd.2 (Nat.not_lt_of_le ge_b45)))
                            replace hb41 := hb41.exc hx141 ne_b39_b45
                            refine ⟨(k + 1), ⟨?_, ?_, ?_, ?_, ?_, ?_, ?_, ?_⟩, ?_⟩
                            · exact (by repeat (first | exact hoff124 | refine Off.st ?_ (by decide) _ | refine Off.via hoff95 (by decide) ?_ | refine Off.eq hF92 ?_ | refine Off.via hoff88 (by decide) ?_ | refine Off.eq hF85 ?_ | refine Off.via hoff81 (by decide) ?_ | refine Off.eq hF35 ?_ | refine Off.via hoff11 (by decide) ?_ | refine Off.eq hF8 ?_))
                            · first | rfl | exact int_eq (by omega) | exact bool_eq (by simp)
                            · first | exact int_eq (by rw [sK_succ, if_pos hmk]) | exact int_eq (by rw [sK_succ, if_neg hmk]; omega)
                            · omega
                            · first | (rw [mark_set (by rw [hR.ldn]; omega) hmk] at hb47; exact hb47) | (rw [mark_skip hmk]; exact hb47)
                            · exact hl
                            · exact hE
                            · exact hb41
                            · (try dsimp only)
                              omega
                          · have hb133p := hb133
                            replace hb133p := of_decide_eq_false hb133p
                            have hmk := hb133p
                            refine wskip ?_
                            refine wregion ?_
                            refine RL.val rfl rfl (by decide) (r_move_as (v := (.int .i64 (((k : Nat) : Int)))) hs125) ?_
                            refine RL.val rfl rfl (by decide) (r_add (k := .i64) (a := ((k : Nat) : Int)) (b := 1) (c := ((k : Nat) : Int) + 1) rfl rfl (wi64 (by omega))) ?_
                            refine RL.val rfl rfl (by decide) (r_assign_as (v := (.int .i64 (((k : Nat) : Int) + 1))) rfl) ?_
                            refine RL.nil ?_
                            refine ⟨(k + 1), ⟨?_, ?_, ?_, ?_, ?_, ?_, ?_, ?_⟩, ?_⟩
                            · exact (by repeat (first | exact hoff124 | refine Off.st ?_ (by decide) _ | refine Off.via hoff95 (by decide) ?_ | refine Off.eq hF92 ?_ | refine Off.via hoff88 (by decide) ?_ | refine Off.eq hF85 ?_ | refine Off.via hoff81 (by decide) ?_ | refine Off.eq hF35 ?_ | refine Off.via hoff11 (by decide) ?_ | refine Off.eq hF8 ?_))
                            · first | rfl | exact int_eq (by omega) | exact bool_eq (by simp)
                            · refine (hs126).trans ?_
                              first | exact int_eq (by rw [sK_succ, if_pos hmk]) | exact int_eq (by rw [sK_succ, if_neg hmk]; omega)
                            · omega
                            · first | (rw [mark_set (by rw [hR.ldn]; omega) hmk] at hb47; exact hb47) | (rw [mark_skip hmk]; exact hb47)
                            · exact hl
                            · exact hE
                            · exact hb41
                            · (try dsimp only)
                              omega
                        · have hb127p := hb127
                          replace hb127p := of_decide_eq_false hb127p
                          refine wexit ?_
                          refine wseq ?_
                          have hkn2 : k = ls.length := by omega
                          rw [hkn2] at hb47
                          obtain ⟨cut, hcut⟩ : ∃ z, z = if (sK ls (me ls ((c : Nat) : Int)) ls.length) < nd then (sK ls (me ls ((c : Nat) : Int)) ls.length) else nd := ⟨_, rfl⟩
                          have hSb := sK_bd hls (m := me ls ((c : Nat) : Int)) (k := ls.length) (Nat.le_refl _)
                          have hcb : 0 ≤ cut ∧ cut ≤ 33554432 ∧ cut ≤ (sK ls (me ls ((c : Nat) : Int)) ls.length) := by rw [hcut]; split <;> omega
                          refine wregion ?_
                          refine RL.val rfl rfl (by decide) (r_move_as (v := (.int .i64 (nd))) ((hoff124 1 rfl).trans ((hF121 1).trans ((hoff95 1 rfl).trans ((hF92 1).trans hs89))))) ?_
                          refine RL.val rfl rfl (by decide) (r_move_as (v := (.int .i64 ((sK ls (me ls ((c : Nat) : Int)) ls.length)))) ((hs126).trans (int_eq (by rw [hkn2])))) ?_
                          refine RL.val rfl rfl (by decide) (r_min2 (a := nd) (b := (sK ls (me ls ((c : Nat) : Int)) ls.length)) rfl rfl) ?_
                          refine RL.val rfl rfl (by decide) (r_assign_as (v := .int .i64 cut) (int_eq (by rw [hcut]))) ?_
                          refine RL.nil ?_
                          refine wseq ?_
                          refine wregion ?_
                          refine RL.val rfl rfl (by decide) (r_assign_as (v := (.slice none (0) (0))) rfl) ?_
                          refine RL.nil ?_
                          refine wseq ?_
                          refine wseq ?_
                          refine wregion ?_
                          refine RL.val rfl rfl (by decide) (r_assign_as (v := (.int .i64 (0))) rfl) ?_
                          refine RL.nil ?_
                          refine wblock ?_
                          refine wset fun F142 hF143 => ?_
                          refine wloop (σ := Nat × Value) (fun (s : Nat × Value) fl wl => match s with | (k, vp) => Off [16, 17, 18, 127, 128, 129, 130, 131, 132, 133, 134, 135, 136, 137, 138, 139, 140, 141, 142, 143, 144, 145, 146, 147, 148, 149, 150, 151, 152, 153, 154, 155] F142 fl ∧ fl 17 = (.int .i64 (((k : Nat) : Int))) ∧ fl 16 = vp ∧ (k ≤ ls.length) ∧ (Oq 16 (fun b T => w.heap.size ≤ b ∧ T = 52) wl w.heap.size 42 vp ((partL ls (me ls ((c : Nat) : Int)) cut).take k)) ∧ (Ss loadC 2 (fun b T => D b T ∧ b < w.heap.size) wl vl ls) ∧ (Below w.heap.size w wl) ∧ (Af (gI .i64) wl b39 3 C ls.length) ∧ (Af gB wl b45 4 (mark ls (me ls ((c : Nat) : Int)) dn ls.length) ls.length)) (fun (s : Nat × Value) => match s with | (k, vp) => ls.length - k) (0, .slice none 0 0) ?_ ?_
                          · exact ⟨Off.refl _ _, (hF143 17).trans (rfl), (hF143 16).trans (rfl), Nat.zero_le _, (by rw [List.take_zero]; exact Oq.nil), hl, hE, hb41, hb47⟩
                          · clear hl hE hb41 hb47
                            rintro ⟨k, vp⟩ f144 w145 ⟨hoff146, hs147, hs148, hk, ho, hl, hE, hb41, hb47⟩
                            refine wseq ?_
                            refine wseq ?_
                            refine wregion ?_
                            refine RL.val rfl rfl (by decide) (r_move_as (v := (.int .i64 (((k : Nat) : Int)))) hs147) ?_
                            refine RL.val rfl rfl (by decide) (r_move_as (v := vl) ((hoff146 0 rfl).trans ((hF143 0).trans ((hoff124 0 rfl).trans ((hF121 0).trans ((hoff95 0 rfl).trans ((hF92 0).trans ((hoff88 0 rfl).trans ((hF85 0).trans ((hoff81 0 rfl).trans ((hF35 0).trans ((hoff11 0 rfl).trans ((hF8 0).trans (hF0 0)))))))))))))) ?_
                            refine RL.val rfl rfl (by decide) (r_len Try.underlying22 hv3) ?_
                            refine RL.val rfl rfl (by decide) (r_lss (k := .i64) (a := ((k : Nat) : Int)) (b := ((ls.length : Nat) : Int)) rfl rfl) ?_
                            refine RL.nil ?_
                            refine wcond (b := decide (((k : Nat) : Int) < ((ls.length : Nat) : Int))) rfl (fun hb149 => ?_) (fun hb149 => ?_)
                            · have hb149p := hb149
                              replace hb149p := of_decide_eq_true hb149p
                              refine wskip ?_
                              refine wseq ?_
                              refine wblock ?_
                              refine wseq ?_
                              have hkl : k < ls.length := by omega
                              refine wregion ?_
                              refine RL.call rfl rfl (by decide) (r_call (vl := []) ent13 rfl) (r03_zero ) ?_
                              rintro _ w150 ⟨⟨vn152, vd154, rfl, hn153, hd155, hl156, hl157⟩, he151⟩
                              have hlv158 := den_one (0 : Rat)
                              replace hn153 := hn153.mono (D' := fun b T => w.heap.size ≤ b ∧ T = 52) (fun b T h => ⟨Nat.le_trans hE.size h.1, h.2⟩)
                              replace hd155 := hd155.mono (D' := fun b T => w.heap.size ≤ b ∧ T = 52) (fun b T h => ⟨Nat.le_trans hE.size h.1, h.2⟩)
                              replace hE := Below.ext hE hE.size he151
                              refine RL.run rfl rfl (by decide) (h_alloc (cs := [(.bool false), (.slice none 0 0), (.slice none 0 0)]) ty42 rfl) ?_
                              rintro _ w159 ⟨b160, rfl, hs163, hb162, he161⟩
                              replace hb41 := hb41.ext he151
                              have lt_b39_b160 := Nat.lt_of_lt_of_eq hb41.lt hs163.symm
                              replace hb47 := hb47.ext he151
                              have lt_b45_b160 := Nat.lt_of_lt_of_eq hb47.lt hs163.symm
                              have ge_b160 : w.heap.size ≤ b160 := by rw [hs163]; exact hE.size
                              replace ho := ho.ext he151
                              have on_vp_b160 : vp.ownBlock ≠ some b160 := fun h => absurd (ho.lt _ h) (by rw [hs163]; exact Nat.lt_irrefl _)
                              replace hE := Below.ext hE hE.size he161
                              refine RL.runs rfl rfl (h_store (vv := (.agg #[(.bool (decide ((0 : Rat).num < 0))), vn152, vd154])) (cs := [(.bool (decide ((0 : Rat).num < 0))), vn152, vd154]) (o := 0) ty42 rfl rfl rfl rfl (one_cons rfl (one_cons hn153.one (one_cons hd155.one one_nil))) hb162 (Nat.le_of_ble_eq_true rfl)) ?_
                              rintro w164 ⟨hn165, hx166, hz167⟩
                              replace hE := Below.exc hE hE.size hx166 ge_b160
                              have nb_hx166 := (Nb.of hb162 (nu_cons rfl (nu_cons rfl (nu_cons rfl nu_nil))))
                              replace hb162 : Bk w164 b160 42 [(.bool (decide ((0 : Rat).num < 0))), vn152, vd154] := hn165
                              refine RL.nil ?_
                              refine wseq ?_
                              refine wseq ?_
                              refine wregion ?_
                              refine RL.val rfl rfl (by decide) (r_move_as (v := vl) ((hoff146 0 rfl).trans ((hF143 0).trans ((hoff124 0 rfl).trans ((hF121 0).trans ((hoff95 0 rfl).trans ((hF92 0).trans ((hoff88 0 rfl).trans ((hF85 0).trans ((hoff81 0 rfl).trans ((hF35 0).trans ((hoff11 0 rfl).trans ((hF8 0).trans (hF0 0)))))))))))))) ?_
                              refine RL.val rfl rfl (by decide) (r_move_as (v := (.int .i64 (((k : Nat) : Int)))) hs147) ?_
                              replace hl := (hl.tr (Sm.ext (Ext.trans he151 he161))).tr (Sm.exc hx166 (fun _ _ _ _ hd => absurd hd.2 (Nat.not_lt_of_le ge_b160)))
                              obtain ⟨b168, o169, c170, hv171, hc172⟩ := hl.ix (i := ((k : Nat) : Int)) (k) (by omega) (by omega)
                              refine RL.val rfl rfl (by decide) (r_indexAddr (i := ((k : Nat) : Int)) Try.underlying22 ty25 hv171 rfl (by omega) (by omega)) ?_
                              refine RL.val rfl rfl (by decide) (r_fieldAddr Try.underlying25 rfl ty3 rfl) ?_
                              refine RL.val rfl rfl (by decide) (r_load (v := (.int .i64 (me ls ((k : Nat) : Int)))) Try.underlying3 ag3 rfl (hc172 1 _ rfl)) ?_
                              refine RL.val rfl rfl (by decide) (r_move_as (v := (.int .i64 (me ls ((c : Nat) : Int)))) ((hoff146 12 rfl).trans ((hF143 12).trans ((hoff124 12 rfl).trans (hF121 12))))) ?_
                              refine RL.val rfl rfl (by decide) (r_eql (k := .i64) (a := me ls ((k : Nat) : Int)) (b := me ls ((c : Nat) : Int)) rfl rfl) ?_
                              refine RL.nil ?_
                              refine wcond (b := decide ((me ls ((k : Nat) : Int)) = (me ls ((c : Nat) : Int)))) rfl (fun hb173 => ?_) (fun hb173 => ?_)
                              · have hb173p := hb173
                                replace hb173p := of_decide_eq_true hb173p
                                have hmk := hb173p
                                have hmb := mul_bound (a := cut) (b := am ls ((k : Nat) : Int)) ⟨hcb.1, hcb.2.1⟩ (hls _ (getD_mem _ _ hkl))
                                refine wregion ?_
                                refine RL.val rfl rfl (by decide) (r_move_as (v := (.int .i64 (cut))) ((hoff146 15 rfl).trans (hF143 15))) ?_
                                refine RL.val rfl rfl (by decide) (r_move_as (v := vl) ((hoff146 0 rfl).trans ((hF143 0).trans ((hoff124 0 rfl).trans ((hF121 0).trans ((hoff95 0 rfl).trans ((hF92 0).trans ((hoff88 0 rfl).trans ((hF85 0).trans ((hoff81 0 rfl).trans ((hF35 0).trans ((hoff11 0 rfl).trans ((hF8 0).trans (hF0 0)))))))))))))) ?_
                                refine RL.val rfl rfl (by decide) (r_move_as (v := (.int .i64 (((k : Nat) : Int)))) hs147) ?_
                                obtain ⟨b174, o175, c176, hv177, hc178⟩ := hl.ix (i := ((k : Nat) : Int)) (k) (by omega) (by omega)
                                refine RL.val rfl rfl (by decide) (r_indexAddr (i := ((k : Nat) : Int)) Try.underlying22 ty25 hv177 rfl (by omega) (by omega)) ?_
                                refine RL.val rfl rfl (by decide) (r_fieldAddr Try.underlying25 rfl ty3 rfl) ?_
                                refine RL.val rfl rfl (by decide) (r_load (v := (.int .i64 (am ls ((k : Nat) : Int)))) Try.underlying3 ag3 rfl (hc178 0 _ rfl)) ?_
                                refine RL.val rfl rfl (by decide) (r_mul (k := .i64) (a := cut) (b := am ls ((k : Nat) : Int)) (c := cut * (am ls ((k : Nat) : Int))) rfl rfl (wi64 (by omega))) ?_
                                refine RL.call rfl rfl (by decide) (r_call (vl := [(.int .i64 (cut * (am ls ((k : Nat) : Int))))]) ent15 rfl) (r03_from (by omega)) ?_
                                rintro _ w179 ⟨⟨vn181, vd183, rfl, hn182, hd184, hl185, hl186⟩, he180⟩
                                have hlv187 := den_one (((cut * (am ls ((k : Nat) : Int))) : Int) : Rat)
                                replace hn182 := hn182.mono (D' := fun b T => w.heap.size ≤ b ∧ T = 52) (fun b T h => ⟨Nat.le_trans hE.size h.1, h.2⟩)
                                replace hd184 := hd184.mono (D' := fun b T => w.heap.size ≤ b ∧ T = 52) (fun b T h => ⟨Nat.le_trans hE.size h.1, h.2⟩)
                                replace hE := Below.ext hE hE.size he180
                                refine RL.val rfl rfl (by decide) (r_move_as (v := (.int .i64 ((sK ls (me ls ((c : Nat) : Int)) ls.length)))) ((hoff146 13 rfl).trans ((hF143 13).trans ((hs126).trans (int_eq (by rw [hkn2])))))) ?_
                                refine RL.call rfl rfl (by decide) (r_call (vl := [(.int .i64 ((sK ls (me ls ((c : Nat) : Int)) ls.length)))]) ent15 rfl) (r03_from (by omega)) ?_
                                rintro _ w188 ⟨⟨vn190, vd192, rfl, hn191, hd193, hl194, hl195⟩, he189⟩
                                have hlv196 := den_one (((sK ls (me ls ((c : Nat) : Int)) ls.length) : Int) : Rat)
                                replace hn191 := hn191.mono (D' := fun b T => w.heap.size ≤ b ∧ T = 52) (fun b T h => ⟨Nat.le_trans hE.size h.1, h.2⟩)
                                replace hd193 := hd193.mono (D' := fun b T => w.heap.size ≤ b ∧ T = 52) (fun b T h => ⟨Nat.le_trans hE.size h.1, h.2⟩)
                                replace hE := Below.ext hE hE.size he189
                                replace hn182 := hn182.tr (Sm.ext he189)
                                replace hd184 := hd184.tr (Sm.ext he189)
                                refine RL.call rfl rfl (by decide) (r_call (vl := [(.agg #[(.bool (decide ((((cut * (am ls ((k : Nat) : Int))) : Int) : Rat).num < 0))), vn181, vd183]), (.agg #[(.bool (decide ((((sK ls (me ls ((c : Nat) : Int)) ls.length) : Int) : Rat).num < 0))), vn190, vd192])]) ent14 rfl) (r03_over hn182 (digs_lm _) (by first | omega | simp) hd184 (digs_lm _) (by first | omega | simp) (ratOf_canon _) hn191 (digs_lm _) (by first | omega | simp) hd193 (digs_lm _) (by first | omega | simp) (ratOf_canon _)) ?_
                                rintro _ w197 ⟨⟨s201, vn202, vd203, x204, d205, rfl, hx206, lm207, ln199, hd208, lm209, ln200, eq210⟩, he198⟩
                                replace hx206 := hx206.mono (D' := fun b T => w.heap.size ≤ b ∧ T = 52) (fun b T h => ⟨Nat.le_trans hE.size h.1, h.2⟩)
                                replace hd208 := hd208.mono (D' := fun b T => w.heap.size ≤ b ∧ T = 52) (fun b T h => ⟨Nat.le_trans hE.size h.1, h.2⟩)
                                replace hE := Below.ext hE hE.size he198
                                have hm215 := Ext.trans he180 (Ext.trans he189 he198)
                                replace hb162 := hb162.ext hm215
                                refine RL.runs rfl rfl (h_store (vv := (.agg #[(.bool (s201)), vn202, vd203])) (cs := [(.bool (s201)), vn202, vd203]) (o := 0) ty42 rfl rfl rfl rfl (one_cons rfl (one_cons hx206.one (one_cons hd208.one one_nil))) hb162 (Nat.le_of_ble_eq_true rfl)) ?_
                                rintro w211 ⟨hn212, hx213, hz214⟩
                                replace hE := Below.exc hE hE.size hx213 ge_b160
                                have nb_hx213 := (Nb.of hb162 (nu_cons rfl (nu_cons hn153.nu (nu_cons hd155.nu nu_nil))))
                                replace hb162 : Bk w211 b160 42 [(.bool (s201)), vn202, vd203] := hn212
                                refine RL.nil ?_
                                refine wregion ?_
                                refine RL.val rfl rfl (by decide) (r_move_as (v := vp) hs148) ?_
                                have hc216 := hb162.cells (o := 0) (cs := [(.bool (s201)), vn202, vd203]) rfl
                                refine RL.val rfl rfl (by decide) (r_loada (o := 0) (cs := [(.bool (s201)), vn202, vd203]) Try.underlying42 ag42 ty42 rfl hc216) ?_
                                refine RL.run rfl rfl (by decide) (h_lit (vl := [(0, (.agg #[(.bool (s201)), vn202, vd203]))]) (cs := [(.bool (s201)), vn202, vd203]) Try.underlying37 ty42 rfl (by decide) (by first | (simp [Instr.fill, Value.cells]; done) | rfl | kernel_rfl)) ?_
                                rintro _ w217 ⟨b218, rfl, hs221, hb220, he219⟩
                                have lt_b160_b218 := Nat.lt_of_lt_of_eq hb162.lt hs221.symm
                                have ge_b218 : w.heap.size ≤ b218 := by rw [hs221]; exact hE.size
                                replace ho := (((ho.ext he161).exo hx166 on_vp_b160 nb_hx166).ext hm215).exo hx213 on_vp_b160 nb_hx213
                                have on_vp_b218 : vp.ownBlock ≠ some b218 := fun h => absurd (ho.lt _ h) (by rw [hs221]; exact Nat.lt_irrefl _)
                                replace hE := Below.ext hE hE.size he219
                                replace ho := ho.ext he219
                                replace hx206 := (hx206.apn hx213 nb_hx213).tr (Sm.ext he219)
                                replace hd208 := (hd208.apn hx213 nb_hx213).tr (Sm.ext he219)
                                refine RL.run rfl rfl (by decide) (h_appendQ (v1 := vp) (v2 := (.slice (some ⟨b218, 0, none⟩) (1) (1))) (c := (s201, vn202, vd203)) (q := (((cut * (am ls ((k : Nat) : Int))) : Int) : Rat) / (((sK ls (me ls ((c : Nat) : Int)) ls.length) : Int) : Rat)) Try.underlying37 ty42 rfl rfl rfl ho (hb220.sc (D := fun _ _ => True) trivial rfl (by decide)) (Rz.of (L := 16) hx206 lm207 (by omega) hd208 lm209 (by omega) (show ratOf s201 (val x204) (val d205) = (((cut * (am ls ((k : Nat) : Int))) : Int) : Rat) / (((sK ls (me ls ((c : Nat) : Int)) ls.length) : Int) : Rat) from eq210)) (fun _ h => absurd h.2 (by decide)) (by simp only [maxLen]; rw [List.length_take, length_partL]; omega) (by rw [List.length_take, length_partL]; omega) hE.size) ?_
                                rintro v223 w222 ⟨ho224, hg225⟩
                                replace hE := ho.gbe hg225 hE hlo hE.size
                                refine RL.val rfl rfl (by decide) (r_assign_as (v := v223) rfl) ?_
                                refine RL.nil ?_
                                refine wregion ?_
                                refine RL.val rfl rfl (by decide) (r_move_as (v := (.int .i64 (((k : Nat) : Int)))) hs147) ?_
                                refine RL.val rfl rfl (by decide) (r_add (k := .i64) (a := ((k : Nat) : Int)) (b := 1) (c := ((k : Nat) : Int) + 1) rfl rfl (wi64 (by omega))) ?_
                                refine RL.val rfl rfl (by decide) (r_assign_as (v := (.int .i64 (((k : Nat) : Int) + 1))) rfl) ?_
                                refine RL.nil ?_
                                replace hl := (((hl.tr (Sm.ext hm215)).tr (Sm.exc hx213 (fun _ _ _ _ hd => absurd hd.2 (Nat.not_lt_of_le ge_b160)))).tr (Sm.ext he219)).tr (ho.gsm hg225 (fun b hb hd => absurd hd.2 (Nat.not_lt_of_le (Nat.le_trans hlo hb))))
                                replace hb41 := ho.gaf hg225 (((((hb41.ext he161).exc hx166 (Nat.ne_of_lt lt_b39_b160)).ext hm215).exc hx213 (Nat.ne_of_lt lt_b39_b160)).ext he219) (by decide)
                                replace hb47 := ho.gaf hg225 (((((hb47.ext he161).exc hx166 (Nat.ne_of_lt lt_b45_b160)).ext hm215).exc hx213 (Nat.ne_of_lt lt_b45_b160)).ext he219) (by decide)
                                refine ⟨(k + 1, v223), ⟨?_, ?_, ?_, ?_, ?_, ?_, ?_, ?_, ?_⟩, ?_⟩
                                · exact (by repeat (first | exact hoff146 | refine Off.st ?_ (by decide) _ | refine Off.via hoff124 (by decide) ?_ | refine Off.eq hF121 ?_ | refine Off.via hoff95 (by decide) ?_ | refine Off.eq hF92 ?_ | refine Off.via hoff88 (by decide) ?_ | refine Off.eq hF85 ?_ | refine Off.via hoff81 (by decide) ?_ | refine Off.eq hF35 ?_ | refine Off.via hoff11 (by decide) ?_ | refine Off.eq hF8 ?_))
                                · first | rfl | exact int_eq (by omega) | exact bool_eq (by simp)
                                · first | rfl | exact int_eq (by omega) | exact bool_eq (by simp)
                                · omega
                                · rw [part_take hkl, partL_at hkl]
                                  first | (rw [if_pos hmk]; exact ho224) | (rw [if_neg hmk]; exact ho224)
                                · exact hl
                                · exact hE
                                · exact hb41
                                · exact hb47
                                · (try dsimp only)
                                  omega
                              · have hb173p := hb173
                                replace hb173p := of_decide_eq_false hb173p
                                have hmk := hb173p
                                refine wskip ?_
                                refine wregion ?_
                                refine RL.val rfl rfl (by decide) (r_move_as (v := vp) hs148) ?_
                                have hc226 := hb162.cells (o := 0) (cs := [(.bool (decide ((0 : Rat).num < 0))), vn152, vd154]) rfl
                                refine RL.val rfl rfl (by decide) (r_loada (o := 0) (cs := [(.bool (decide ((0 : Rat).num < 0))), vn152, vd154]) Try.underlying42 ag42 ty42 rfl hc226) ?_
                                refine RL.run rfl rfl (by decide) (h_lit (vl := [(0, (.agg #[(.bool (decide ((0 : Rat).num < 0))), vn152, vd154]))]) (cs := [(.bool (decide ((0 : Rat).num < 0))), vn152, vd154]) Try.underlying37 ty42 rfl (by decide) (by first | (simp [Instr.fill, Value.cells]; done) | rfl | kernel_rfl)) ?_
                                rintro _ w227 ⟨b228, rfl, hs231, hb230, he229⟩
                                have lt_b160_b228 := Nat.lt_of_lt_of_eq hb162.lt hs231.symm
                                have ge_b228 : w.heap.size ≤ b228 := by rw [hs231]; exact hE.size
                                replace ho := (ho.ext he161).exo hx166 on_vp_b160 nb_hx166
                                have on_vp_b228 : vp.ownBlock ≠ some b228 := fun h => absurd (ho.lt _ h) (by rw [hs231]; exact Nat.lt_irrefl _)
                                replace hE := Below.ext hE hE.size he229
                                replace ho := ho.ext he229
                                replace hn153 := ((hn153.tr (Sm.ext he161)).apn hx166 nb_hx166).tr (Sm.ext he229)
                                replace hd155 := ((hd155.tr (Sm.ext he161)).apn hx166 nb_hx166).tr (Sm.ext he229)
                                refine RL.run rfl rfl (by decide) (h_appendQ (v1 := vp) (v2 := (.slice (some ⟨b228, 0, none⟩) (1) (1))) (c := (decide ((0 : Rat).num < 0), vn152, vd154)) (q := (0 : Rat)) Try.underlying37 ty42 rfl rfl rfl ho (hb230.sc (D := fun _ _ => True) trivial rfl (by decide)) (Rz.of (L := 16) hn153 (digs_lm _) (by omega) hd155 (digs_lm _) (by omega) (ratOf_canon _)) (fun _ h => absurd h.2 (by decide)) (by simp only [maxLen]; rw [List.length_take, length_partL]; omega) (by rw [List.length_take, length_partL]; omega) hE.size) ?_
                                rintro v233 w232 ⟨ho234, hg235⟩
                                replace hE := ho.gbe hg235 hE hlo hE.size
                                refine RL.val rfl rfl (by decide) (r_assign_as (v := v233) rfl) ?_
                                refine RL.nil ?_
                                refine wregion ?_
                                refine RL.val rfl rfl (by decide) (r_move_as (v := (.int .i64 (((k : Nat) : Int)))) hs147) ?_
                                refine RL.val rfl rfl (by decide) (r_add (k := .i64) (a := ((k : Nat) : Int)) (b := 1) (c := ((k : Nat) : Int) + 1) rfl rfl (wi64 (by omega))) ?_
                                refine RL.val rfl rfl (by decide) (r_assign_as (v := (.int .i64 (((k : Nat) : Int) + 1))) rfl) ?_
                                refine RL.nil ?_
                                replace hl := (hl.tr (Sm.ext he229)).tr (ho.gsm hg235 (fun b hb hd => absurd hd.2 (Nat.not_lt_of_le (Nat.le_trans hlo hb))))
                                replace hb41 := ho.gaf hg235 (((hb41.ext he161).exc hx166 (Nat.ne_of_lt lt_b39_b160)).ext he229) (by decide)
                                replace hb47 := ho.gaf hg235 (((hb47.ext he161).exc hx166 (Nat.ne_of_lt lt_b45_b160)).ext he229) (by decide)
                                refine ⟨(k + 1, v233), ⟨?_, ?_, ?_, ?_, ?_, ?_, ?_, ?_, ?_⟩, ?_⟩
                                · exact (by repeat (first | exact hoff146 | refine Off.st ?_ (by decide) _ | refine Off.via hoff124 (by decide) ?_ | refine Off.eq hF121 ?_ | refine Off.via hoff95 (by decide) ?_ | refine Off.eq hF92 ?_ | refine Off.via hoff88 (by decide) ?_ | refine Off.eq hF85 ?_ | refine Off.via hoff81 (by decide) ?_ | refine Off.eq hF35 ?_ | refine Off.via hoff11 (by decide) ?_ | refine Off.eq hF8 ?_))
                                · first | rfl | exact int_eq (by omega) | exact bool_eq (by simp)
                                · first | rfl | exact int_eq (by omega) | exact bool_eq (by simp)
                                · omega
                                · rw [part_take hkl, partL_at hkl]
                                  first | (rw [if_pos hmk]; exact ho234) | (rw [if_neg hmk]; exact ho234)
                                · exact hl
                                · exact hE
                                · exact hb41
                                · exact hb47
                                · (try dsimp only)
                                  omega
                            · have hb149p := hb149
                              replace hb149p := of_decide_eq_false hb149p
                              refine wexit ?_
                              refine wseq ?_
                              have hkn3 : k = ls.length := by omega
                              have hpn : (partL ls (me ls ((c : Nat) : Int)) cut).take k = (partL ls (me ls ((c : Nat) : Int)) cut) := List.take_of_length_le (by rw [length_partL]; omega)
                              rw [hpn] at ho
                              have hsum : rsum (partL ls (me ls ((c : Nat) : Int)) cut) = ((cut : Int) : Rat) := (app_cut (S := sumA ls (grp ls (me ls ((c : Nat) : Int)))) (i := c) rfl hSb.1 hcb.1 hcb.2.2 hcl).1
                              have hel : ∀ k, k < (partL ls (me ls ((c : Nat) : Int)) cut).length → 0 ≤ (partL ls (me ls ((c : Nat) : Int)) cut).getD k default ∧ (partL ls (me ls ((c : Nat) : Int)) cut).getD k default ≤ ((35184372088832 : Int) : Rat) := fun k hk => part_bd hls ⟨hcb.1, hcb.2.1⟩ hk
                              obtain ⟨AL, hAL⟩ : ∃ z, z = byR (appF (partL ls (me ls ((c : Nat) : Int)) cut) cut) (partL ls (me ls ((c : Nat) : Int)) cut).length := ⟨_, rfl⟩
                              have hALl : AL.length = ls.length := by rw [hAL, length_byR, length_partL]
                              have hALk : ∀ i, i < ls.length → AL.getD i default = if me ls ((i : Nat) : Int) = me ls ((c : Nat) : Int) then cutG ls (grp ls (me ls ((c : Nat) : Int))) cut i else 0 := fun i hi => by rw [hAL, byR_at (by rw [length_partL]; exact hi)]; exact (app_cut (S := sumA ls (grp ls (me ls ((c : Nat) : Int)))) rfl hSb.1 hcb.1 hcb.2.2 hi).2
                              refine wregion ?_
                              refine RL.val rfl rfl (by decide) (r_move_as (v := vp) hs148) ?_
                              refine RL.call rfl rfl (by decide) (r_call (vl := [vp]) ent16 rfl) (r40_apportion (qs := (partL ls (me ls ((c : Nat) : Int)) cut)) (t := cut) (ho.rs (D' := fun b _ => w.heap.size ≤ b) (fun b h => h) (fun b T h => h.1)) (by omega) (by rw [length_partL]; omega) hsum (by omega) hel) ?_
                              rintro _ w236 ⟨⟨vo238, rfl, hA⟩, he237⟩
                              have h8w := hb41.lt
                              replace hE := Below.ext hE hE.size he237
                              rw [← hAL] at hA
                              refine RL.val rfl rfl (by decide) (r_move_as (v := (.tuple #[vo238, (.int .i64 (0))])) rfl) ?_
                              refine RL.val rfl rfl (by decide) (r_extract (v := vo238) rfl rfl) ?_
                              refine RL.val rfl rfl (by decide) (r_extract (v := (.int .i64 (0))) rfl rfl) ?_
                              refine RL.val rfl rfl (by decide) (r_assign_as (v := vo238) rfl) ?_
                              refine RL.val rfl rfl (by decide) (r_assign_as (v := (.int .i64 (0))) rfl) ?_
                              refine RL.nil ?_
                              refine wseq ?_
                              refine wseq ?_
                              refine wregion ?_
                              refine RL.val rfl rfl (by decide) (r_assign_as (v := (.int .i64 (0))) rfl) ?_
                              refine RL.nil ?_
                              refine wblock ?_
                              refine wset fun F239 hF240 => ?_
                              refine wloop (σ := Nat) (fun (k : Nat) fl wl => Off [21, 161, 162, 163, 164, 165, 166, 167, 168, 169, 170, 171, 172, 173, 174, 175, 176] F239 fl ∧ fl 21 = (.int .i64 (((k : Nat) : Int))) ∧ (k ≤ ls.length) ∧ (Af (gI .i64) wl b39 3 (addK C AL k) ls.length) ∧ (Ss loadC 2 (fun b T => D b T ∧ b < w.heap.size) wl vl ls) ∧ (Below w.heap.size w wl) ∧ (Af gB wl b45 4 (mark ls (me ls ((c : Nat) : Int)) dn ls.length) ls.length) ∧ (Sg (gI .i64) (fun b _ => w145.heap.size ≤ b) wl vo238 AL)) (fun (k : Nat) => ls.length - k) (0) ?_ ?_
                              · replace hb41 := hb41.ext he237
                                replace hl := hl.tr (Sm.ext he237)
                                replace hb47 := hb47.ext he237
                                exact ⟨Off.refl _ _, (hF240 21).trans (rfl), Nat.zero_le _, (by rw [addK_zero]; exact hb41), hl, hE, hb47, hA⟩
                              · clear hl hE hb41 hb47 ho hA
                                rintro k f241 w242 ⟨hoff243, hs244, hk, hb41, hl, hE, hb47, hA⟩
                                refine wseq ?_
                                refine wseq ?_
                                refine wregion ?_
                                refine RL.val rfl rfl (by decide) (r_move_as (v := (.int .i64 (((k : Nat) : Int)))) hs244) ?_
                                refine RL.val rfl rfl (by decide) (r_move_as (v := vl) ((hoff243 0 rfl).trans ((hF240 0).trans ((hoff146 0 rfl).trans ((hF143 0).trans ((hoff124 0 rfl).trans ((hF121 0).trans ((hoff95 0 rfl).trans ((hF92 0).trans ((hoff88 0 rfl).trans ((hF85 0).trans ((hoff81 0 rfl).trans ((hF35 0).trans ((hoff11 0 rfl).trans ((hF8 0).trans (hF0 0)))))))))))))))) ?_
                                refine RL.val rfl rfl (by decide) (r_len Try.underlying22 hv3) ?_
                                refine RL.val rfl rfl (by decide) (r_lss (k := .i64) (a := ((k : Nat) : Int)) (b := ((ls.length : Nat) : Int)) rfl rfl) ?_
                                refine RL.nil ?_
                                refine wcond (b := decide (((k : Nat) : Int) < ((ls.length : Nat) : Int))) rfl (fun hb245 => ?_) (fun hb245 => ?_)
                                · have hb245p := hb245
                                  replace hb245p := of_decide_eq_true hb245p
                                  refine wskip ?_
                                  refine wseq ?_
                                  refine wblock ?_
                                  have hkl : k < ls.length := by omega
                                  have hCk := rnd_bd hls (by omega) hR hkl
                                  have hAk := al_bd hls (by omega) (hALk k hkl) ⟨hcb.1, hcb.2.1⟩ hkl
                                  refine wdraw mixed fun w246 he247 => ?_
                                  replace hE := Below.ext hE hE.size he247
                                  refine RA.take 0 rfl (by kernel_rfl) rfl rfl (by decide) (fun _ => r_move_as (v := (.slice (some ⟨b39, 0, none⟩) (ls.length) (ls.length))) ((hoff243 8 rfl).trans ((hF240 8).trans ((hoff146 8 rfl).trans ((hF143 8).trans ((hoff124 8 rfl).trans ((hF121 8).trans ((hoff95 8 rfl).trans ((hF92 8).trans ((hoff88 8 rfl).trans ((hF85 8).trans hs82))))))))))) ?_
                                  refine RA.take 1 rfl (by kernel_rfl) rfl rfl (by decide) (fun _ => r_move_as (v := (.int .i64 (((k : Nat) : Int)))) hs244) ?_
                                  refine RA.take 2 rfl (by kernel_rfl) rfl rfl (by decide) (fun _ => r_indexAddr (i := ((k : Nat) : Int)) Try.underlying26 ty3 rfl rfl (by omega) (by omega)) ?_
                                  replace hb41 := hb41.ext he247
                                  have hc248 := hb41.cell (i := ((k : Nat) : Int)) (k) (by omega) (by omega)
                                  rw [show (addK C AL k).getD (k) default = C.getD k default from (by rw [addK_at (by rw [hR.lC]; omega), if_neg (Nat.lt_irrefl _)]; omega)] at hc248
                                  refine RA.rd 3 rfl (by kernel_rfl) rfl rfl rfl (by decide) (Ext.refl _) (fun u hu => r_load (v := (.int .i64 (C.getD k default))) Try.underlying3 ag3 rfl (cell_ext hu hc248)) ?_
                                  refine RA.take 4 rfl (by kernel_rfl) rfl rfl (by decide) (fun _ => r_move_as (v := vo238) ((hoff243 19 rfl).trans (hF240 19))) ?_
                                  refine RA.take 5 rfl (by kernel_rfl) rfl rfl (by decide) (fun _ => r_move_as (v := (.int .i64 (((k : Nat) : Int)))) hs244) ?_
                                  replace hA := hA.tr (Sm.ext he247)
                                  obtain ⟨b249, o250, c251, hv252, hc253⟩ := hA.ix (i := ((k : Nat) : Int)) (k) (by omega) (by omega)
                                  refine RA.take 6 rfl (by kernel_rfl) rfl rfl (by decide) (fun _ => r_indexAddr (i := ((k : Nat) : Int)) Try.underlying26 ty3 hv252 rfl (by omega) (by omega)) ?_
                                  refine RA.rd 7 rfl (by kernel_rfl) rfl rfl rfl (by decide) (Ext.refl _) (fun u hu => r_load (v := (.int .i64 (AL.getD (k) default))) Try.underlying3 ag3 rfl (cell_ext hu hc253)) ?_
                                  refine RA.take 8 rfl (by kernel_rfl) rfl rfl (by decide) (fun _ => r_add (k := .i64) (a := C.getD k default) (b := AL.getD (k) default) (c := (C.getD k default) + (AL.getD (k) default)) rfl rfl (wi64 (by omega))) ?_
                                  refine RA.take 9 rfl (by kernel_rfl) rfl rfl (by decide) (fun _ => r_indexAddr (i := ((k : Nat) : Int)) Try.underlying26 ty3 rfl rfl (by omega) (by omega)) ?_
                                  refine RA.all [10] (by kernel_rfl) rfl ?_
                                  refine RS.runs rfl rfl rfl (h_setF (g := (gI .i64)) (vv := (.int .i64 ((C.getD k default) + (AL.getD (k) default)))) (u := (C.getD k default) + (AL.getD (k) default)) (i := ((k : Nat) : Int)) ty3 rfl rfl rfl rfl rfl hb41 (k) (by omega) (by omega)) ?_ RS.nil
                                  rintro w254 ⟨ha255, hx256⟩
                                  refine ⟨.inr (.inl (by kernel_rfl)), ?_⟩
                                  replace hE := Below.exc hE hE.size hx256 ge_b39
                                  have nb_hx256 := (hb41.nb (fun _ => rfl))
                                  replace hb41 := ha255
                                  refine RA.done (by kernel_rfl) ?_
                                  refine wregion ?_
                                  refine RL.val rfl rfl (by decide) (r_move_as (v := (.int .i64 (((k : Nat) : Int)))) hs244) ?_
                                  refine RL.val rfl rfl (by decide) (r_add (k := .i64) (a := ((k : Nat) : Int)) (b := 1) (c := ((k : Nat) : Int) + 1) rfl rfl (wi64 (by omega))) ?_
                                  refine RL.val rfl rfl (by decide) (r_assign_as (v := (.int .i64 (((k : Nat) : Int) + 1))) rfl) ?_
                                  refine RL.nil ?_
                                  replace hl := (hl.tr (Sm.ext he247)).tr (Sm.exc hx256 (fun _ _ _ _ hd => absurd hd.2 (Nat.not_lt_of_le ge_b39)))
                                  replace hb47 := (hb47.ext he247).exc hx256 (Ne.symm ne_b39_b45)
                                  replace hA := hA.tr (Sm.exc hx256 (fun _ _ _ _ => by intro hd; exact absurd hd (Nat.not_le_of_lt h8w)))
                                  refine ⟨(k + 1), ⟨?_, ?_, ?_, ?_, ?_, ?_, ?_, ?_⟩, ?_⟩
                                  · exact (by repeat (first | exact hoff243 | refine Off.st ?_ (by decide) _ | refine Off.via hoff146 (by decide) ?_ | refine Off.eq hF143 ?_ | refine Off.via hoff124 (by decide) ?_ | refine Off.eq hF121 ?_ | refine Off.via hoff95 (by decide) ?_ | refine Off.eq hF92 ?_ | refine Off.via hoff88 (by decide) ?_ | refine Off.eq hF85 ?_ | refine Off.via hoff81 (by decide) ?_ | refine Off.eq hF35 ?_ | refine Off.via hoff11 (by decide) ?_ | refine Off.eq hF8 ?_))
                                  · first | rfl | exact int_eq (by omega) | exact bool_eq (by simp)
                                  · omega
                                  · rw [addK_set (by rw [hR.lC]; omega)] at hb41; exact hb41
                                  · exact hl
                                  · exact hE
                                  · exact hb47
                                  · exact hA
                                  · (try dsimp only)
                                    omega
                                · have hb245p := hb245
                                  replace hb245p := of_decide_eq_false hb245p
                                  refine wexit ?_
                                  have hkn4 : k = ls.length := by omega
                                  have hstep := hR.step (C' := addK C AL ls.length) (cut := cut) hls hnd0 hcl hcd hmin hcut (by rw [length_addK, hR.lC]) (fun i hi => by rw [addK_at (by rw [hR.lC]; exact hi), if_pos hi, hALk i hi])
                                  refine wregion ?_
                                  refine RL.val rfl rfl (by decide) (r_move_as (v := (.int .i64 (nd))) ((hoff243 1 rfl).trans ((hF240 1).trans ((hoff146 1 rfl).trans ((hF143 1).trans ((hoff124 1 rfl).trans ((hF121 1).trans ((hoff95 1 rfl).trans ((hF92 1).trans hs89))))))))) ?_
                                  refine RL.val rfl rfl (by decide) (r_move_as (v := (.int .i64 (cut))) ((hoff243 15 rfl).trans ((hF240 15).trans ((hoff146 15 rfl).trans (hF143 15))))) ?_
                                  refine RL.val rfl rfl (by decide) (r_sub (k := .i64) (a := nd) (b := cut) (c := nd - cut) rfl rfl (wi64 (by omega))) ?_
                                  refine RL.val rfl rfl (by decide) (r_assign_as (v := (.int .i64 (nd - cut))) rfl) ?_
                                  refine RL.nil ?_
                                  refine ⟨(nd - cut, mark ls (me ls ((c : Nat) : Int)) dn ls.length, addK C AL ls.length), ⟨?_, ?_, ?_, ?_, ?_, ?_, ?_⟩, ?_⟩
                                  · exact (by repeat (first | exact hoff88 | refine Off.st ?_ (by decide) _ | refine Off.via hoff243 (by decide) ?_ | refine Off.eq hF240 ?_ | refine Off.via hoff146 (by decide) ?_ | refine Off.eq hF143 ?_ | refine Off.via hoff124 (by decide) ?_ | refine Off.eq hF121 ?_ | refine Off.via hoff95 (by decide) ?_ | refine Off.eq hF92 ?_ | refine Off.via hoff81 (by decide) ?_ | refine Off.eq hF35 ?_ | refine Off.via hoff11 (by decide) ?_ | refine Off.eq hF8 ?_))
                                  · first | rfl | exact int_eq (by omega) | exact bool_eq (by simp)
                                  · exact hstep.1
                                  · rw [show k = ls.length by omega] at hb41; exact hb41
                                  · exact hb47
                                  · exact hl
                                  · exact hE
                                  · exact left_mark hR.ldn hcl hcd
                · have hb90p := hb90
                  replace hb90p := of_decide_eq_false hb90p
                  refine wexit ?_
                  refine wseq ?_
                  refine wregion ?_
                  refine RL.val rfl rfl (by decide) (r_move_as (v := (.slice (some ⟨b39, 0, none⟩) (ls.length) (ls.length))) ((hoff88 8 rfl).trans ((hF85 8).trans hs82))) ?_
                  refine RL.val rfl rfl (by decide) (r_assign_as (v := (.slice (some ⟨b39, 0, none⟩) (ls.length) (ls.length))) rfl) ?_
                  refine RL.val rfl rfl (by decide) (r_assign_as (v := (.int .i64 (0))) rfl) ?_
                  refine RL.nil ?_
                  refine wret ?_
                  refine ⟨[(.slice (some ⟨b39, 0, none⟩) (ls.length) (ls.length)), (.int .i64 (0))], ⟨rfl, ⟨rfl, trivial⟩⟩, ?_⟩
                  have hce : curtE ls need = 0 := by unfold curtE; rw [if_neg (by omega), if_pos hls, if_neg (by omega)]
                  have hCC := hR.fin hls (by omega)
                  refine ⟨.inr ⟨hce, _, rfl, ?_⟩, hE⟩
                  rw [← hCC]
                  exact hb41.sg (by omega) ge_b39

end Go.Proofs.Ytppgppnkhpjlpaa
