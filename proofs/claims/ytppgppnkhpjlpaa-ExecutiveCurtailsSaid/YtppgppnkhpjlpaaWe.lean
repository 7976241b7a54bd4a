/- Walks, printed by program. -/
import Derived.Test.YtppgppnkhpjlpaaWd
import Derived.Test.YtppgppnkhpjlpaaMcut
namespace Go.Proofs.Ytppgppnkhpjlpaa
open Go.Vg Go.RowKit
set_option linter.unusedVariables false

open Go.Vm

theorem slen {A : Option Addr} {n m : Nat} (h : m = n) : Value.slice A n n = .slice A m m := by rw [h]
theorem sl_if {b o k : Nat} {xs : List Int} : Value.slice (if xs.length = k then (some ⟨b, o, none⟩ : Option Addr) else (some ⟨b, o, none⟩ : Option Addr).map (·.add (k * 1))) (xs.length - k) (xs.length - k) = .slice (some ⟨b, if xs.length = k then o else o + k, none⟩) (xs.drop k).length (xs.drop k).length := by
  rw [List.length_drop]
  split <;> simp [add_spotless]
theorem ar_cut {g : Int → Value} {w : World} {b o k : Nat} {T : TypeId} {xs : List Int} (h : Ar g w b T o xs xs.length) (hk : k ≤ xs.length) : Ar g w b T (if xs.length = k then o else o + k) (xs.drop k) (xs.drop k).length := by
  split
  · next e => rw [show xs.drop k = [] from List.drop_eq_nil_of_le (by omega)]; exact h.none_
  · rw [List.length_drop]; exact h.tail k hk

/-- what a curtailment returns -/
def CurtPost (ls : List (Int × Int)) (need : Int) (w w' : World) (v : Value) : Prop :=
  (curtE ls need ≠ 0 ∧ v = .tuple #[.slice none 0 0, .int .i64 (curtE ls need)]) ∨ (curtE ls need = 0 ∧ ∃ vr, v = .tuple #[vr, .int .i64 0] ∧ Sg (gI .i64) (fun b _ => w.heap.size ≤ b) w' vr (curtF ls need))

set_option maxHeartbeats 4000000 in
theorem curtail_spec {D : Nat → TypeId → Prop} {vl : Value} {ls : List (Int × Int)} {need : Int} {w : World} (hl0 : Ss loadC 2 D w vl ls) :
    Calls Try.prog 5 #[vl, (.int .i64 (need))] w fun e w' => ∃ v, e = .returned v ∧ CurtPost ls need w w' v ∧ Ext w w' := by
  have hE : Below w.heap.size w w := Below.refl _ _
  have hl := hl0.old
  clear hl0
  refine calls_of (n := 122) (rs := [.tmp 4, .tmp 5]) Try.func5 rfl rfl rfl (Nat.le_of_ble_eq_true rfl) ?_
  refine wset fun F0 hF0 => ?_
  refine wseq ?_
  refine wregion ?_
  refine RL.run rfl rfl (by decide) (h_box (vv := vl) (cs := [vl]) (hF0 0) (cells_one hl.one)) ?_
  rintro _ w1 ⟨b2, rfl, hs5, hb4, he3⟩
  have he3z := he3.size
  replace hl := hl.tr (Sm.ext he3)
  replace hE := Below.ext hE (by omega) he3
  have hb4l := hb4.lt
  refine RL.val rfl rfl (by decide) (r_assign_as (v := (.slice none (0) (0))) rfl) ?_
  refine RL.val rfl rfl (by decide) (r_assign_as (v := (.int .i64 (0))) rfl) ?_
  refine RL.nil ?_
  refine wseq ?_
  refine wseq ?_
  refine wregion ?_
  have hc6 := hb4.cell (j := 0) (u := vl) rfl
  refine RL.val rfl rfl (by decide) (r_load (v := vl) Try.underlying22 ag22 rfl hc6) ?_
  obtain ⟨A7, c8, hv9, hc10, hc11⟩ := hl.len
  refine RL.val rfl rfl (by decide) (r_len Try.underlying22 hv9) ?_
  refine RL.val rfl rfl (by decide) (r_gtr (k := .i64) (a := ((ls.length : Nat) : Int)) (b := 32) rfl rfl) ?_
  refine RL.nil ?_
  refine wcond (b := decide (32 < ((ls.length : Nat) : Int))) rfl (fun hb12 => ?_) (fun hb12 => ?_)
  · have hb12p := hb12
    replace hb12p := of_decide_eq_true hb12p
    refine wseq ?_
    refine wregion ?_
    refine RL.val rfl rfl (by decide) (r_assign_as (v := (.slice none (0) (0))) rfl) ?_
    refine RL.val rfl rfl (by decide) (r_assign_as (v := (.int .i64 (8))) rfl) ?_
    refine RL.nil ?_
    refine wret ?_
    refine ⟨[(.slice none (0) (0)), (.int .i64 (8))], ⟨rfl, ⟨rfl, trivial⟩⟩, ?_⟩
    exact ⟨.inl ⟨by unfold curtE; rw [if_pos (by omega)]; decide, by unfold curtE; rw [if_pos (by omega)]; rfl⟩, hE⟩
  · have hb12p := hb12
    replace hb12p := of_decide_eq_false hb12p
    refine wskip ?_
    refine wseq ?_
    refine wregion ?_
    refine RL.val rfl rfl (by decide) (r_assign_as (v := (.int .i64 (0))) rfl) ?_
    refine RL.nil ?_
    refine wseq ?_
    refine wseq ?_
    refine wregion ?_
    have hc13 := hb4.cell (j := 0) (u := vl) rfl
    refine RL.val rfl rfl (by decide) (r_load (v := vl) Try.underlying22 ag22 rfl hc13) ?_
    refine RL.val rfl rfl (by decide) (r_len Try.underlying22 hv9) ?_
    refine RL.val rfl rfl (by decide) (r_move_as (v := (.int .i64 (0))) rfl) ?_
    refine RL.nil ?_
    refine wblock ?_
    refine wset fun F14 hF15 => ?_
    refine wloop (σ := Nat) (fun (k : Nat) fl wl => Off [4, 5, 6, 8, 20, 21, 22, 23, 24, 25, 26, 27, 28, 29, 30, 31, 32, 33, 34, 35, 36] F14 fl ∧ fl 20 = (.int .i64 (((k : Nat) : Int))) ∧ fl 6 = (.int .i64 (sumP (ls.take k))) ∧ (k ≤ ls.length) ∧ (∀ p ∈ ls.take k, 0 ≤ p.1 ∧ p.1 ≤ 1048576) ∧ (0 ≤ sumP (ls.take k) ∧ sumP (ls.take k) ≤ k * 1048576) ∧ (Bk wl b2 22 [vl]) ∧ (Ss loadC 2 (fun b T => D b T ∧ b < w.heap.size) wl vl ls) ∧ (Below w.heap.size w wl) ∧ (w1.heap.size ≤ wl.heap.size)) (fun (k : Nat) => ls.length - k) (0) ?_ ?_
    · exact ⟨Off.refl _ _, (hF15 20).trans (rfl), (hF15 6).trans ((int_eq (by simp [sumP]))), Nat.zero_le _, by simp, by simp [sumP], hb4, hl, hE, Nat.le_refl _⟩
    · clear hl hE hb4
      rintro k f17 w18 ⟨hoff19, hs20, hs21, hk, hlk, hsk, hb4, hl, hE, hz16⟩
      refine wseq ?_
      refine wregion ?_
      refine RL.val rfl rfl (by decide) (r_lss (k := .i64) (a := ((k : Nat) : Int)) (b := ((ls.length : Nat) : Int)) hs20 ((hoff19 19 rfl).trans (hF15 19))) ?_
      refine RL.nil ?_
      refine wseq ?_
      refine wcond (b := decide (((k : Nat) : Int) < ((ls.length : Nat) : Int))) rfl (fun hb22 => ?_) (fun hb22 => ?_)
      · have hb22p := hb22
        replace hb22p := of_decide_eq_true hb22p
        refine wskip ?_
        refine wseq ?_
        refine wblock ?_
        refine wseq ?_
        have hkl : k < ls.length := by omega
        refine wregion ?_
        obtain ⟨b23, o24, c25, hv26, hc27⟩ := hl.ix (i := ((k : Nat) : Int)) (k) (by omega) (by omega)
        refine RL.val rfl rfl (by decide) (r_indexAddr (i := ((k : Nat) : Int)) Try.underlying22 ty25 ((((hoff19 18 rfl).trans (hF15 18))).trans hv26) hs20 (by omega) (by omega)) ?_
        refine RL.val rfl rfl (by decide) (r_loada (cs := [(.int .i64 ((ls.getD (k) default).1)), (.int .i64 ((ls.getD (k) default).2))]) Try.underlying25 ag25 ty25 rfl hc27) ?_
        refine RL.run rfl rfl (by decide) (h_alloc (cs := [(.int .i64 0), (.int .i64 0)]) ty25 rfl) ?_
        rintro _ w28 ⟨b29, rfl, hs32, hb31, he30⟩
        have he30z := he30.size
        replace hl := hl.tr (Sm.ext he30)
        replace hE := Below.ext hE (by omega) he30
        replace hb4 := hb4.ext he30
        have hb31l := hb31.lt
        refine RL.runs rfl rfl (h_store (vv := (.agg #[(.int .i64 ((ls.getD (k) default).1)), (.int .i64 ((ls.getD (k) default).2))])) (cs := [(.int .i64 ((ls.getD (k) default).1)), (.int .i64 ((ls.getD (k) default).2))]) (o := 0) ty25 rfl rfl rfl rfl (one_cons rfl (one_cons rfl one_nil)) hb31 (Nat.le_of_ble_eq_true rfl)) ?_
        rintro w33 ⟨hn34, hx35, hz36⟩
        have hx35z := hx35.size
        replace hl := hl.tr (hb31.sm hx35 (by (intro h; have := h.2; omega)))
        replace hE := Below.exc hE (by omega) hx35 (by omega)
        replace hb4 := hb4.exc hx35 (by omega)
        replace hb31 : Bk w33 b29 25 [(.int .i64 ((ls.getD (k) default).1)), (.int .i64 ((ls.getD (k) default).2))] := hn34
        refine RL.nil ?_
        refine wseq ?_
        refine wseq ?_
        refine wregion ?_
        refine RL.val rfl rfl (by decide) (r_fieldAddr Try.underlying25 rfl ty3 rfl) ?_
        have hc37 := hb31.cell (j := 0) (u := (.int .i64 ((ls.getD (k) default).1))) rfl
        refine RL.val rfl rfl (by decide) (r_load (v := (.int .i64 ((ls.getD (k) default).1))) Try.underlying3 ag3 rfl hc37) ?_
        refine RL.val rfl rfl (by decide) (r_lss (k := .i64) (a := (ls.getD (k) default).1) (b := 0) rfl rfl) ?_
        refine RL.val rfl rfl (by decide) (r_move_as (v := (.bool (decide (((ls.getD (k) default).1) < 0)))) rfl) ?_
        rcases Bool.eq_false_or_eq_true (decide (((ls.getD (k) default).1) < 0)) with hb38 | hb38
        · have hb38p := hb38
          replace hb38p := of_decide_eq_true hb38p
          refine RL.gno rfl rfl (bool_eq hb38) rfl (by decide) ?_
          refine RL.gno rfl rfl (bool_eq hb38) rfl (by decide) ?_
          refine RL.gno rfl rfl (bool_eq hb38) rfl (by decide) ?_
          refine RL.val rfl rfl (by decide) (r_pick_t (v := (.bool (true))) (bool_eq hb38) rfl) ?_
          refine RL.nil ?_
          refine wcond_t rfl ?_
          refine wseq ?_
          refine wregion ?_
          refine RL.val rfl rfl (by decide) (r_assign_as (v := (.slice none (0) (0))) rfl) ?_
          refine RL.val rfl rfl (by decide) (r_assign_as (v := (.int .i64 (3))) rfl) ?_
          refine RL.nil ?_
          refine wret ?_
          refine ⟨[(.slice none (0) (0)), (.int .i64 (3))], ⟨rfl, ⟨rfl, trivial⟩⟩, ?_⟩
          have hce : curtE ls need = 3 := by unfold curtE; rw [if_neg (by omega), if_neg (fun h => by have := h (ls.getD k default) (getD_mem _ _ (by omega)); omega)]
          exact ⟨.inl ⟨by rw [hce]; decide, by rw [hce]; rfl⟩, hE⟩
        · have hb38p := hb38
          replace hb38p := of_decide_eq_false hb38p
          refine RL.gval rfl rfl (bool_eq hb38) rfl (by decide) (r_fieldAddr Try.underlying25 rfl ty3 rfl) ?_
          have hc39 := hb31.cell (j := 0) (u := (.int .i64 ((ls.getD (k) default).1))) rfl
          refine RL.gval rfl rfl (bool_eq hb38) rfl (by decide) (r_load (v := (.int .i64 ((ls.getD (k) default).1))) Try.underlying3 ag3 rfl hc39) ?_
          refine RL.gval rfl rfl (bool_eq hb38) rfl (by decide) (r_gtr (k := .i64) (a := (ls.getD (k) default).1) (b := 1048576) rfl rfl) ?_
          refine RL.val rfl rfl (by decide) (r_pick_f (v := (.bool (decide (1048576 < ((ls.getD (k) default).1))))) (bool_eq hb38) rfl) ?_
          refine RL.nil ?_
          refine wcond (b := decide (1048576 < ((ls.getD (k) default).1))) rfl (fun hb40 => ?_) (fun hb40 => ?_)
          · have hb40p := hb40
            replace hb40p := of_decide_eq_true hb40p
            refine wseq ?_
            refine wregion ?_
            refine RL.val rfl rfl (by decide) (r_assign_as (v := (.slice none (0) (0))) rfl) ?_
            refine RL.val rfl rfl (by decide) (r_assign_as (v := (.int .i64 (3))) rfl) ?_
            refine RL.nil ?_
            refine wret ?_
            refine ⟨[(.slice none (0) (0)), (.int .i64 (3))], ⟨rfl, ⟨rfl, trivial⟩⟩, ?_⟩
            have hce : curtE ls need = 3 := by unfold curtE; rw [if_neg (by omega), if_neg (fun h => by have := h (ls.getD k default) (getD_mem _ _ (by omega)); omega)]
            exact ⟨.inl ⟨by rw [hce]; decide, by rw [hce]; rfl⟩, hE⟩
          · have hb40p := hb40
            replace hb40p := of_decide_eq_false hb40p
            refine wskip ?_
            refine wregion ?_
            refine RL.val rfl rfl (by decide) (r_move_as (v := (.int .i64 (sumP (ls.take k)))) hs21) ?_
            refine RL.val rfl rfl (by decide) (r_fieldAddr Try.underlying25 rfl ty3 rfl) ?_
            have hc41 := hb31.cell (j := 0) (u := (.int .i64 ((ls.getD (k) default).1))) rfl
            refine RL.val rfl rfl (by decide) (r_load (v := (.int .i64 ((ls.getD (k) default).1))) Try.underlying3 ag3 rfl hc41) ?_
            refine RL.val rfl rfl (by decide) (r_add (k := .i64) (a := sumP (ls.take k)) (b := (ls.getD (k) default).1) (c := (sumP (ls.take k)) + ((ls.getD (k) default).1)) rfl rfl (wi64 (by omega))) ?_
            refine RL.val rfl rfl (by decide) (r_assign_as (v := (.int .i64 ((sumP (ls.take k)) + ((ls.getD (k) default).1)))) rfl) ?_
            refine RL.nil ?_
            refine wregion ?_
            refine RL.val rfl rfl (by decide) (r_add (k := .i64) (a := ((k : Nat) : Int)) (b := 1) (c := ((k : Nat) : Int) + 1) hs20 rfl (wi64 (by omega))) ?_
            refine RL.val rfl rfl (by decide) (r_move_as (v := (.int .i64 (((k : Nat) : Int) + 1))) rfl) ?_
            refine RL.nil ?_
            refine ⟨(k + 1), ⟨?_, ?_, ?_, ?_, ?_, ?_, ?_, ?_, ?_, ?_⟩, ?_⟩
            · exact (by repeat (first | exact hoff19 | refine Off.st ?_ (by decide) _))
            · first | rfl | exact int_eq (by omega) | exact bool_eq (by simp)
            · exact int_eq (by rw [take_snoc ls k hkl, sumP_snoc])
            · omega
            · rw [take_snoc ls k hkl]; intro p hp; rcases List.mem_append.1 hp with hp | hp; exact hlk p hp; simp at hp; subst hp; exact ⟨by simp at *; omega, by simp at *; omega⟩
            · rw [take_snoc ls k hkl, sumP_snoc]; omega
            · exact hb4
            · exact hl
            · exact hE
            · omega
            · (try dsimp only)
              omega
      · have hb22p := hb22
        replace hb22p := of_decide_eq_false hb22p
        refine wexit ?_
        refine wseq ?_
        refine wseq ?_
        have hls : ∀ p ∈ ls, 0 ≤ p.1 ∧ p.1 ≤ 1048576 := by rw [List.take_of_length_le (by omega)] at hlk; exact hlk
        have hsl : sumP (ls.take k) = sumP ls := by rw [List.take_of_length_le (by omega)]
        refine wregion ?_
        refine RL.val rfl rfl (by decide) (r_move_as (v := (.int .i64 (need))) ((hoff19 1 rfl).trans ((hF15 1).trans (hF0 1)))) ?_
        refine RL.val rfl rfl (by decide) (r_lss (k := .i64) (a := need) (b := 0) rfl rfl) ?_
        refine RL.val rfl rfl (by decide) (r_move_as (v := (.bool (decide (need < 0)))) rfl) ?_
        rcases Bool.eq_false_or_eq_true (decide (need < 0)) with hb42 | hb42
        · have hb42p := hb42
          replace hb42p := of_decide_eq_true hb42p
          refine RL.gno rfl rfl (bool_eq hb42) rfl (by decide) ?_
          refine RL.gno rfl rfl (bool_eq hb42) rfl (by decide) ?_
          refine RL.gno rfl rfl (bool_eq hb42) rfl (by decide) ?_
          refine RL.val rfl rfl (by decide) (r_pick_t (v := (.bool (true))) (bool_eq hb42) rfl) ?_
          refine RL.nil ?_
          refine wcond_t rfl ?_
          refine wseq ?_
          refine wregion ?_
          refine RL.val rfl rfl (by decide) (r_assign_as (v := (.slice none (0) (0))) rfl) ?_
          refine RL.val rfl rfl (by decide) (r_assign_as (v := (.int .i64 (3))) rfl) ?_
          refine RL.nil ?_
          refine wret ?_
          refine ⟨[(.slice none (0) (0)), (.int .i64 (3))], ⟨rfl, ⟨rfl, trivial⟩⟩, ?_⟩
          have hce : curtE ls need = 3 := by unfold curtE; rw [if_neg (by omega), if_pos hls, if_pos (by omega)]
          exact ⟨.inl ⟨by rw [hce]; decide, by rw [hce]; rfl⟩, hE⟩
        · have hb42p := hb42
          replace hb42p := of_decide_eq_false hb42p
          refine RL.gval rfl rfl (bool_eq hb42) rfl (by decide) (r_move_as (v := (.int .i64 (need))) ((hoff19 1 rfl).trans ((hF15 1).trans (hF0 1)))) ?_
          refine RL.gval rfl rfl (bool_eq hb42) rfl (by decide) (r_move_as (v := (.int .i64 (sumP (ls.take k)))) hs21) ?_
          refine RL.gval rfl rfl (bool_eq hb42) rfl (by decide) (r_gtr (k := .i64) (a := need) (b := sumP (ls.take k)) rfl rfl) ?_
          refine RL.val rfl rfl (by decide) (r_pick_f (v := (.bool (decide ((sumP (ls.take k)) < need)))) (bool_eq hb42) rfl) ?_
          refine RL.nil ?_
          refine wcond (b := decide ((sumP (ls.take k)) < need)) rfl (fun hb43 => ?_) (fun hb43 => ?_)
          · have hb43p := hb43
            replace hb43p := of_decide_eq_true hb43p
            refine wseq ?_
            refine wregion ?_
            refine RL.val rfl rfl (by decide) (r_assign_as (v := (.slice none (0) (0))) rfl) ?_
            refine RL.val rfl rfl (by decide) (r_assign_as (v := (.int .i64 (3))) rfl) ?_
            refine RL.nil ?_
            refine wret ?_
            refine ⟨[(.slice none (0) (0)), (.int .i64 (3))], ⟨rfl, ⟨rfl, trivial⟩⟩, ?_⟩
            have hce : curtE ls need = 3 := by unfold curtE; rw [if_neg (by omega), if_pos hls, if_pos (by omega)]
            exact ⟨.inl ⟨by rw [hce]; decide, by rw [hce]; rfl⟩, hE⟩
          · have hb43p := hb43
            replace hb43p := of_decide_eq_false hb43p
            refine wskip ?_
            refine wseq ?_
            refine wregion ?_
            have hc44 := hb4.cell (j := 0) (u := vl) rfl
            refine RL.val rfl rfl (by decide) (r_load (v := vl) Try.underlying22 ag22 ((hoff19 2 rfl).trans (hF15 2)) hc44) ?_
            refine RL.val rfl rfl (by decide) (r_len Try.underlying22 hv9) ?_
            have hn50 : (((ls.length : Nat) : Int) : Int) = ((ls.length : Nat) : Int) := by omega
            refine RL.run rfl rfl (by decide) (h_make1 (n := ls.length) Try.underlying26 ty3 rfl (int_eq hn50) (int_eq hn50) (by omega) (by omega)) ?_
            rintro _ w45 ⟨b46, rfl, hs49, hb48, he47⟩
            have he47z := he47.size
            replace hl := hl.tr (Sm.ext he47)
            replace hE := Below.ext hE (by omega) he47
            replace hb4 := hb4.ext he47
            replace hb48 := Ar.made (g := (gI .i64)) (z := (0 : Int)) hb48 rfl
            have hb48l := hb48.lt
            refine RL.val rfl rfl (by decide) (r_assign_as (v := (.slice (some ⟨b46, 0, none⟩) (ls.length) (ls.length))) rfl) ?_
            refine RL.nil ?_
            refine wseq ?_
            refine wseq ?_
            refine wregion ?_
            refine RL.val rfl rfl (by decide) (r_move_as (v := (.slice (some ⟨b46, 0, none⟩) (ls.length) (ls.length))) rfl) ?_
            refine RL.val rfl rfl (by decide) (r_len Try.underlying26 rfl) ?_
            refine RL.val rfl rfl (by decide) (r_move_as (v := (.int .i64 (0))) rfl) ?_
            refine RL.nil ?_
            refine wblock ?_
            refine wset fun F51 hF52 => ?_
            refine wloop (σ := Nat) (fun (k : Nat) fl wl => Off [10, 49, 50, 51, 52, 53, 54, 55, 56] F51 fl ∧ fl 49 = (.int .i64 (((k : Nat) : Int))) ∧ (k ≤ ls.length) ∧ (Bk wl b2 22 [vl]) ∧ (Ss loadC 2 (fun b T => D b T ∧ b < w.heap.size) wl vl ls) ∧ (Ar (gI .i64) wl b46 3 0 (fillI ls.length k) ls.length) ∧ (Below w.heap.size w wl) ∧ (w45.heap.size ≤ wl.heap.size)) (fun (k : Nat) => ls.length - k) (0) ?_ ?_
            · exact ⟨Off.refl _ _, (hF52 49).trans (rfl), Nat.zero_le _, hb4, hl, (by simpa [fillI, idx] using hb48), hE, Nat.le_refl _⟩
            · clear hl hE hb4 hb48
              rintro k f54 w55 ⟨hoff56, hs57, hk, hb4, hl, hb48, hE, hz53⟩
              refine wseq ?_
              refine wregion ?_
              refine RL.val rfl rfl (by decide) (r_lss (k := .i64) (a := ((k : Nat) : Int)) (b := ((ls.length : Nat) : Int)) hs57 ((hoff56 48 rfl).trans (hF52 48))) ?_
              refine RL.nil ?_
              refine wseq ?_
              refine wcond (b := decide (((k : Nat) : Int) < ((ls.length : Nat) : Int))) rfl (fun hb58 => ?_) (fun hb58 => ?_)
              · have hb58p := hb58
                replace hb58p := of_decide_eq_true hb58p
                refine wskip ?_
                refine wseq ?_
                refine wblock ?_
                refine wseq ?_
                refine wregion ?_
                refine RL.val rfl rfl (by decide) (r_move_as (v := (.int .i64 (((k : Nat) : Int)))) hs57) ?_
                refine RL.val rfl rfl (by decide) (r_assign_as (v := (.int .i64 (((k : Nat) : Int)))) rfl) ?_
                refine RL.nil ?_
                refine wregion ?_
                refine RL.val rfl rfl (by decide) (r_move_as (v := (.slice (some ⟨b46, 0, none⟩) (ls.length) (ls.length))) ((hoff56 9 rfl).trans (hF52 9))) ?_
                refine RL.val rfl rfl (by decide) (r_move_as (v := (.int .i64 (((k : Nat) : Int)))) rfl) ?_
                refine RL.val rfl rfl (by decide) (r_move_as (v := (.int .i64 (((k : Nat) : Int)))) rfl) ?_
                refine RL.val rfl rfl (by decide) (r_indexAddr (i := ((k : Nat) : Int)) Try.underlying26 ty3 rfl rfl (by omega) (by omega)) ?_
                refine RL.runs rfl rfl (h_set (g := (gI .i64)) (vv := (.int .i64 (((k : Nat) : Int)))) (u := ((k : Nat) : Int)) (i := ((k : Nat) : Int)) ty3 rfl rfl rfl rfl rfl hb48 (k) (by omega) (by omega)) ?_
                rintro w59 ⟨ha60, hx61⟩
                have hx61z := hx61.size
                replace hl := hl.tr (hb48.sm hx61 (by (intro h; have := h.2; omega)))
                replace hE := Below.exc hE (by omega) hx61 (by omega)
                replace hb4 := hb4.exc hx61 (by omega)
                replace hb48 := ha60
                refine RL.nil ?_
                refine wregion ?_
                refine RL.val rfl rfl (by decide) (r_add (k := .i64) (a := ((k : Nat) : Int)) (b := 1) (c := ((k : Nat) : Int) + 1) hs57 rfl (wi64 (by omega))) ?_
                refine RL.val rfl rfl (by decide) (r_move_as (v := (.int .i64 (((k : Nat) : Int) + 1))) rfl) ?_
                refine RL.nil ?_
                refine ⟨(k + 1), ⟨?_, ?_, ?_, ?_, ?_, ?_, ?_, ?_⟩, ?_⟩
                · exact (by repeat (first | exact hoff56 | refine Off.st ?_ (by decide) _ | refine Off.via hoff19 (by decide) ?_ | refine Off.eq hF15 ?_))
                · first | rfl | exact int_eq (by omega) | exact bool_eq (by simp)
                · omega
                · exact hb4
                · exact hl
                · rw [fill_set _ _ (by omega)] at hb48; exact hb48
                · exact hE
                · omega
                · (try dsimp only)
                  omega
              · have hb58p := hb58
                replace hb58p := of_decide_eq_false hb58p
                refine wexit ?_
                refine wseq ?_
                have hkk : k = ls.length := by omega
                rw [hkk, fill_all] at hb48
                refine wregion ?_
                refine RL.val rfl rfl (by decide) (r_move_as (v := (.slice (some ⟨b46, 0, none⟩) (ls.length) (ls.length))) ((hoff56 9 rfl).trans (hF52 9))) ?_
                refine RL.val rfl rfl (by decide) (r_makeFunc (vl := [(.pointer (some ⟨b2, 0, none⟩))]) (mpc ((hoff56 2 rfl).trans ((hF52 2).trans ((hoff19 2 rfl).trans (hF15 2)))) mpn)) ?_
                have hq2 := hb4.lt
                refine RL.call rfl rfl (by decide) (r_call (vl := [(.slice (some ⟨b46, 0, none⟩) (ls.length) (ls.length)), (.func (.func 10) #[] #[(.pointer (some ⟨b2, 0, none⟩))])]) ent9 rfl) (sortStable_int (key := me ls) (ok := fun i => 0 ≤ i ∧ i < (ls.length : Int)) ent10 (fun u hu x y hx hy => curtail1 (hb4.exc hu (by omega)) (hl.tr (hb48.sm hu (fun h => by have := h.2; omega))) hx hy : CmpOk Try.prog 10 [.pointer (some ⟨b2, 0, none⟩)] (gI .i64) (me ls) (fun i => 0 ≤ i ∧ i < (ls.length : Int)) b46 _) (Exc.of_ext (Ext.refl _)) hb48 (by omega) (fun i hi => mem_idx.1 hi)) ?_
                rintro _ w62 ⟨rfl, ⟨Pm, har2, hPs, hPe⟩, hxs⟩
                have hxsz := hxs.size
                replace hl := hl.tr (hb48.sm hxs (by (intro h; have := h.2; omega)))
                replace hE := Below.exc hE (by omega) hxs (by omega)
                replace hb4 := hb4.exc hxs (by omega)
                replace hb48 := har2
                refine RL.nil ?_
                refine wseq ?_
                have hPl : Pm.length = ls.length := by have := hPe.length; rw [length_idx] at this; omega
                refine wregion ?_
                have hc63 := hb4.cell (j := 0) (u := vl) rfl
                refine RL.val rfl rfl (by decide) (r_load (v := vl) Try.underlying22 ag22 ((hoff56 2 rfl).trans ((hF52 2).trans ((hoff19 2 rfl).trans (hF15 2)))) hc63) ?_
                refine RL.val rfl rfl (by decide) (r_len Try.underlying22 hv9) ?_
                have hn69 : (((ls.length : Nat) : Int) : Int) = ((ls.length : Nat) : Int) := by omega
                refine RL.run rfl rfl (by decide) (h_make1 (n := ls.length) Try.underlying26 ty3 rfl (int_eq hn69) (int_eq hn69) (by omega) (by omega)) ?_
                rintro _ w64 ⟨b65, rfl, hs68, hb67, he66⟩
                have he66z := he66.size
                replace hl := hl.tr (Sm.ext he66)
                replace hE := Below.ext hE (by omega) he66
                replace hb4 := hb4.ext he66
                replace hb48 := hb48.ext he66
                replace hb67 := Ar.made (g := (gI .i64)) (z := (0 : Int)) hb67 rfl
                have hb67l := hb67.lt
                refine RL.val rfl rfl (by decide) (r_assign_as (v := (.slice (some ⟨b65, 0, none⟩) (ls.length) (ls.length))) rfl) ?_
                refine RL.nil ?_
                refine wseq ?_
                refine wblock ?_
                refine wset fun F70 hF71 => ?_
                refine wloop (σ := List Int × List Int × List Int × Int × Nat) (fun (s : List Int × List Int × List Int × Int × Nat) fl wl => match s with | (Dn, R, C, nd, o) => Off [1, 9, 12, 13, 14, 63, 64, 65, 66, 67, 68, 69, 70, 71, 72, 73, 74, 75, 76, 77, 78, 79, 80, 81, 82, 83, 84, 85, 86, 87, 88, 89, 90, 91, 92, 93, 94, 95, 96, 97, 98, 99, 100, 101, 102, 103, 104, 105, 106, 107, 108, 109, 110, 111, 112, 113, 114, 115, 116, 117, 118, 119, 120] F70 fl ∧ fl 1 = (.int .i64 (nd)) ∧ fl 9 = (.slice (some ⟨b46, o, none⟩) (R.length) (R.length)) ∧ (Pm = Dn ++ R) ∧ (∀ i ∈ Dn, ∀ j ∈ R, me ls i < me ls j) ∧ (nd = max 0 (need - sumA ls Dn)) ∧ (∀ i, 0 ≤ i → i < (ls.length : Int) → C.getD i.toNat default = if i ∈ Dn then cutF ls need i else 0) ∧ (∀ x ∈ C, 0 ≤ x ∧ x ≤ ((35184372088832 + 32 * Dn.length : Nat) : Int)) ∧ (o + R.length ≤ ls.length) ∧ (Bk wl b2 22 [vl]) ∧ (Ss loadC 2 (fun b T => D b T ∧ b < w.heap.size) wl vl ls) ∧ (Ar (gI .i64) wl b46 3 o R R.length) ∧ (Ar (gI .i64) wl b65 3 0 C ls.length) ∧ (Below w.heap.size w wl) ∧ (w64.heap.size ≤ wl.heap.size)) (fun (s : List Int × List Int × List Int × Int × Nat) => match s with | (Dn, R, C, nd, o) => R.length) ([], Pm, List.replicate ls.length 0, need, 0) ?_ ?_
                · exact ⟨Off.refl _ _, (hF71 1).trans ((((hoff56 1 rfl).trans ((hF52 1).trans ((hoff19 1 rfl).trans ((hF15 1).trans (hF0 1)))))).trans rfl), (hF71 9).trans ((((hoff56 9 rfl).trans (hF52 9))).trans (slen hPl)), rfl, by simp, by simp only [sumA, List.map_nil, List.sum_nil]; omega, (fun i h0 h1 => by simp [show i.toNat < ls.length by omega]), (fun x hx => by have := List.eq_of_mem_replicate hx; omega), by omega, hb4, hl, (by rw [hPl]; exact hb48), hb67, hE, Nat.le_refl _⟩
                · clear hl hE hb4 hb48 hb67
                  rintro ⟨Dn, R, C, nd, o⟩ f73 w74 ⟨hoff75, hs76, hs77, hOO, hB, hnd, hC, hCb, hor, hb4, hl, hb48, hb67, hE, hz72⟩
                  refine wseq ?_
                  refine wseq ?_
                  refine wregion ?_
                  refine RL.val rfl rfl (by decide) (r_move_as (v := (.slice (some ⟨b46, o, none⟩) (R.length) (R.length))) hs77) ?_
                  refine RL.val rfl rfl (by decide) (r_len Try.underlying26 rfl) ?_
                  refine RL.val rfl rfl (by decide) (r_gtr (k := .i64) (a := ((R.length : Nat) : Int)) (b := 0) rfl rfl) ?_
                  refine RL.val rfl rfl (by decide) (r_move_as (v := (.bool (decide (0 < ((R.length : Nat) : Int))))) rfl) ?_
                  rcases Bool.eq_false_or_eq_true (decide (0 < ((R.length : Nat) : Int))) with hb78 | hb78
                  · have hb78p := hb78
                    replace hb78p := of_decide_eq_true hb78p
                    refine RL.gval rfl rfl (bool_eq hb78) rfl (by decide) (r_move_as (v := (.int .i64 (nd))) hs76) ?_
                    refine RL.gval rfl rfl (bool_eq hb78) rfl (by decide) (r_gtr (k := .i64) (a := nd) (b := 0) rfl rfl) ?_
                    refine RL.val rfl rfl (by decide) (r_pick_t (v := (.bool (decide (0 < nd)))) (bool_eq hb78) rfl) ?_
                    refine RL.nil ?_
                    refine wcond (b := decide (0 < nd)) rfl (fun hb79 => ?_) (fun hb79 => ?_)
                    · have hb79p := hb79
                      replace hb79p := of_decide_eq_true hb79p
                      refine wskip ?_
                      refine wblock ?_
                      refine wseq ?_
                      have hOl : Dn.length + R.length = ls.length := by have := congrArg List.length hOO; simp at this; omega
                      have hRin : ∀ i ∈ R, 0 ≤ i ∧ i < (ls.length : Int) := fun i hi => mem_idx.1 (hPe.symm.mem (by rw [hOO]; exact List.mem_append_right _ hi))
                      refine wregion ?_
                      refine RL.val rfl rfl (by decide) (r_assign_as (v := (.int .i64 (0))) rfl) ?_
                      refine RL.nil ?_
                      refine wseq ?_
                      refine wregion ?_
                      refine RL.val rfl rfl (by decide) (r_assign_as (v := (.int .i64 (0))) rfl) ?_
                      refine RL.nil ?_
                      refine wseq ?_
                      refine wblock ?_
                      refine wset fun F80 hF81 => ?_
                      refine wloop (σ := Nat) (fun (k : Nat) fl wl => Off [12, 13, 70, 71, 72, 73, 74, 75, 76, 77, 78, 79, 80, 81, 82, 83, 84, 85, 86, 87, 88, 89, 90, 91, 92, 93, 94, 95, 96, 97, 98, 99, 100, 101, 102, 103] F80 fl ∧ fl 12 = (.int .i64 (((k : Nat) : Int))) ∧ fl 13 = (.int .i64 (sumA ls (R.take k))) ∧ (k ≤ R.length) ∧ (∀ j ∈ R.take k, me ls j = me ls (R.getD 0 default)) ∧ (0 ≤ sumA ls (R.take k) ∧ sumA ls (R.take k) ≤ k * 1048576) ∧ (Bk wl b2 22 [vl]) ∧ (Ss loadC 2 (fun b T => D b T ∧ b < w.heap.size) wl vl ls) ∧ (Ar (gI .i64) wl b46 3 o R R.length) ∧ (Ar (gI .i64) wl b65 3 0 C ls.length) ∧ (Below w.heap.size w wl) ∧ (w74.heap.size ≤ wl.heap.size)) (fun (k : Nat) => R.length - k) (0) ?_ ?_
                      · exact ⟨Off.refl _ _, (hF81 12).trans (rfl), (hF81 13).trans ((int_eq (by simp [sumA]))), Nat.zero_le _, by simp, by simp [sumA], hb4, hl, hb48, hb67, hE, Nat.le_refl _⟩
                      · clear hl hE hb4 hb48 hb67
                        rintro k f83 w84 ⟨hoff85, hs86, hs87, hkR, hsame, hsk, hb4, hl, hb48, hb67, hE, hz82⟩
                        refine wseq ?_
                        refine wseq ?_
                        refine wdraw mixed fun w88 he89 => ?_
                        have he89z := he89.size
                        replace hl := hl.tr (Sm.ext he89)
                        replace hE := Below.ext hE (by omega) he89
                        replace hb4 := hb4.ext he89
                        replace hb48 := hb48.ext he89
                        replace hb67 := hb67.ext he89
                        refine RA.take 0 rfl (by kernel_rfl) rfl rfl (by decide) (fun _ => r_move_as (v := (.int .i64 (((k : Nat) : Int)))) hs86) ?_
                        refine RA.take 1 rfl (by kernel_rfl) rfl rfl (by decide) (fun _ => r_move_as (v := (.slice (some ⟨b46, o, none⟩) (R.length) (R.length))) ((hoff85 9 rfl).trans ((hF81 9).trans hs77))) ?_
                        refine RA.take 2 rfl (by kernel_rfl) rfl rfl (by decide) (fun _ => r_len Try.underlying26 rfl) ?_
                        refine RA.take 3 rfl (by kernel_rfl) rfl rfl (by decide) (fun _ => r_lss (k := .i64) (a := ((k : Nat) : Int)) (b := ((R.length : Nat) : Int)) rfl rfl) ?_
                        refine RA.take 4 rfl (by kernel_rfl) rfl rfl (by decide) (fun _ => r_move_as (v := (.bool (decide (((k : Nat) : Int) < ((R.length : Nat) : Int))))) rfl) ?_
                        rcases Bool.eq_false_or_eq_true (decide (((k : Nat) : Int) < ((R.length : Nat) : Int))) with hb90 | hb90
                        · have hb90p := hb90
                          replace hb90p := of_decide_eq_true hb90p
                          have hc91 := hb4.cell (j := 0) (u := vl) rfl
                          refine RA.grd 5 rfl (by kernel_rfl) rfl rfl rfl (bool_eq hb90) rfl (by decide) (Ext.refl _) (fun u hu => r_load (v := vl) Try.underlying22 ag22 ((hoff85 2 rfl).trans ((hF81 2).trans ((hoff75 2 rfl).trans ((hF71 2).trans ((hoff56 2 rfl).trans ((hF52 2).trans ((hoff19 2 rfl).trans (hF15 2)))))))) (cell_ext hu hc91)) ?_
                          refine RA.gtake 6 rfl (by kernel_rfl) rfl rfl (bool_eq hb90) rfl (by decide) (fun _ => r_move_as (v := (.slice (some ⟨b46, o, none⟩) (R.length) (R.length))) ((hoff85 9 rfl).trans ((hF81 9).trans hs77))) ?_
                          refine RA.gtake 7 rfl (by kernel_rfl) rfl rfl (bool_eq hb90) rfl (by decide) (fun _ => r_move_as (v := (.int .i64 (((k : Nat) : Int)))) hs86) ?_
                          refine RA.gtake 8 rfl (by kernel_rfl) rfl rfl (bool_eq hb90) rfl (by decide) (fun _ => r_indexAddr (i := ((k : Nat) : Int)) Try.underlying26 ty3 rfl rfl (by omega) (by omega)) ?_
                          have hkl : k < R.length := by omega
                          obtain ⟨r, hrk⟩ : ∃ r, r = R.getD k default := ⟨_, rfl⟩
                          have hrr := hRin r (by rw [hrk]; exact getD_mem _ _ hkl)
                          have hrb := hls (ls.getD r.toNat default) (getD_mem _ _ (by omega))
                          obtain ⟨r0, hr0⟩ : ∃ r, r = R.getD 0 default := ⟨_, rfl⟩
                          have hr0r := hRin r0 (by rw [hr0]; exact getD_mem _ _ (by omega))
                          have hc92 := hb48.cell (i := ((k : Nat) : Int)) (k) (by omega) (by omega)
                          rw [show R.getD (k) default = r from hrk.symm] at hc92
                          refine RA.grd 9 rfl (by kernel_rfl) rfl rfl rfl (bool_eq hb90) rfl (by decide) (Ext.refl _) (fun u hu => r_load (v := (.int .i64 (r))) Try.underlying3 ag3 rfl (cell_ext hu hc92)) ?_
                          obtain ⟨b93, o94, c95, hv96, hc97⟩ := hl.ix (i := r) (r.toNat) (by omega) (by omega)
                          refine RA.gtake 10 rfl (by kernel_rfl) rfl rfl (bool_eq hb90) rfl (by decide) (fun _ => r_indexAddr (i := r) Try.underlying22 ty25 hv96 rfl (by omega) (by omega)) ?_
                          refine RA.gtake 11 rfl (by kernel_rfl) rfl rfl (bool_eq hb90) rfl (by decide) (fun _ => r_fieldAddr Try.underlying25 rfl ty3 rfl) ?_
                          refine RA.grd 12 rfl (by kernel_rfl) rfl rfl rfl (bool_eq hb90) rfl (by decide) (Ext.refl _) (fun u hu => r_load (v := (.int .i64 ((ls.getD (r.toNat) default).2))) Try.underlying3 ag3 rfl (cell_ext hu (hc97 1 _ rfl))) ?_
                          have hc98 := hb4.cell (j := 0) (u := vl) rfl
                          refine RA.grd 13 rfl (by kernel_rfl) rfl rfl rfl (bool_eq hb90) rfl (by decide) (Ext.refl _) (fun u hu => r_load (v := vl) Try.underlying22 ag22 ((hoff85 2 rfl).trans ((hF81 2).trans ((hoff75 2 rfl).trans ((hF71 2).trans ((hoff56 2 rfl).trans ((hF52 2).trans ((hoff19 2 rfl).trans (hF15 2)))))))) (cell_ext hu hc98)) ?_
                          refine RA.gtake 14 rfl (by kernel_rfl) rfl rfl (bool_eq hb90) rfl (by decide) (fun _ => r_move_as (v := (.slice (some ⟨b46, o, none⟩) (R.length) (R.length))) ((hoff85 9 rfl).trans ((hF81 9).trans hs77))) ?_
                          refine RA.gtake 15 rfl (by kernel_rfl) rfl rfl (bool_eq hb90) rfl (by decide) (fun _ => r_indexAddr (i := 0) Try.underlying26 ty3 rfl rfl (by omega) (by omega)) ?_
                          have hc99 := hb48.cell (i := 0) (0) (by omega) (by omega)
                          rw [show R.getD (0) default = r0 from hr0.symm] at hc99
                          refine RA.grd 16 rfl (by kernel_rfl) rfl rfl rfl (bool_eq hb90) rfl (by decide) (Ext.refl _) (fun u hu => r_load (v := (.int .i64 (r0))) Try.underlying3 ag3 rfl (cell_ext hu hc99)) ?_
                          obtain ⟨b100, o101, c102, hv103, hc104⟩ := hl.ix (i := r0) (r0.toNat) (by omega) (by omega)
                          refine RA.gtake 17 rfl (by kernel_rfl) rfl rfl (bool_eq hb90) rfl (by decide) (fun _ => r_indexAddr (i := r0) Try.underlying22 ty25 hv103 rfl (by omega) (by omega)) ?_
                          refine RA.gtake 18 rfl (by kernel_rfl) rfl rfl (bool_eq hb90) rfl (by decide) (fun _ => r_fieldAddr Try.underlying25 rfl ty3 rfl) ?_
                          refine RA.grd 19 rfl (by kernel_rfl) rfl rfl rfl (bool_eq hb90) rfl (by decide) (Ext.refl _) (fun u hu => r_load (v := (.int .i64 ((ls.getD (r0.toNat) default).2))) Try.underlying3 ag3 rfl (cell_ext hu (hc104 1 _ rfl))) ?_
                          refine RA.gtake 20 rfl (by kernel_rfl) rfl rfl (bool_eq hb90) rfl (by decide) (fun _ => r_eql (k := .i64) (a := (ls.getD (r.toNat) default).2) (b := (ls.getD (r0.toNat) default).2) rfl rfl) ?_
                          refine RA.take 21 rfl (by kernel_rfl) rfl rfl (by decide) (fun _ => r_pick_t (v := (.bool (decide (((ls.getD (r.toNat) default).2) = ((ls.getD (r0.toNat) default).2))))) (bool_eq hb90) rfl) ?_
                          refine RA.done (by kernel_rfl) ?_
                          refine wcond (b := decide (((ls.getD (r.toNat) default).2) = ((ls.getD (r0.toNat) default).2))) rfl (fun hb105 => ?_) (fun hb105 => ?_)
                          · have hb105p := hb105
                            replace hb105p := of_decide_eq_true hb105p
                            have hmm : me ls r = me ls (R.getD 0 default) := by rw [← hr0]; exact hb105p
                            refine wskip ?_
                            refine wblock ?_
                            refine wseq ?_
                            refine wdraw mixed fun w106 he107 => ?_
                            have he107z := he107.size
                            replace hl := hl.tr (Sm.ext he107)
                            replace hE := Below.ext hE (by omega) he107
                            replace hb4 := hb4.ext he107
                            replace hb48 := hb48.ext he107
                            replace hb67 := hb67.ext he107
                            refine RA.take 0 rfl (by kernel_rfl) rfl rfl (by decide) (fun _ => r_move_as (v := (.int .i64 (sumA ls (R.take k)))) hs87) ?_
                            have hc108 := hb4.cell (j := 0) (u := vl) rfl
                            refine RA.rd 1 rfl (by kernel_rfl) rfl rfl rfl (by decide) (Ext.refl _) (fun u hu => r_load (v := vl) Try.underlying22 ag22 ((hoff85 2 rfl).trans ((hF81 2).trans ((hoff75 2 rfl).trans ((hF71 2).trans ((hoff56 2 rfl).trans ((hF52 2).trans ((hoff19 2 rfl).trans (hF15 2)))))))) (cell_ext hu hc108)) ?_
                            refine RA.take 2 rfl (by kernel_rfl) rfl rfl (by decide) (fun _ => r_move_as (v := (.slice (some ⟨b46, o, none⟩) (R.length) (R.length))) ((hoff85 9 rfl).trans ((hF81 9).trans hs77))) ?_
                            refine RA.take 3 rfl (by kernel_rfl) rfl rfl (by decide) (fun _ => r_move_as (v := (.int .i64 (((k : Nat) : Int)))) hs86) ?_
                            refine RA.take 4 rfl (by kernel_rfl) rfl rfl (by decide) (fun _ => r_indexAddr (i := ((k : Nat) : Int)) Try.underlying26 ty3 rfl rfl (by omega) (by omega)) ?_
                            have hc109 := hb48.cell (i := ((k : Nat) : Int)) (k) (by omega) (by omega)
                            rw [show R.getD (k) default = r from hrk.symm] at hc109
                            refine RA.rd 5 rfl (by kernel_rfl) rfl rfl rfl (by decide) (Ext.refl _) (fun u hu => r_load (v := (.int .i64 (r))) Try.underlying3 ag3 rfl (cell_ext hu hc109)) ?_
                            obtain ⟨b110, o111, c112, hv113, hc114⟩ := hl.ix (i := r) (r.toNat) (by omega) (by omega)
                            refine RA.take 6 rfl (by kernel_rfl) rfl rfl (by decide) (fun _ => r_indexAddr (i := r) Try.underlying22 ty25 hv113 rfl (by omega) (by omega)) ?_
                            refine RA.take 7 rfl (by kernel_rfl) rfl rfl (by decide) (fun _ => r_fieldAddr Try.underlying25 rfl ty3 rfl) ?_
                            refine RA.rd 8 rfl (by kernel_rfl) rfl rfl rfl (by decide) (Ext.refl _) (fun u hu => r_load (v := (.int .i64 ((ls.getD (r.toNat) default).1))) Try.underlying3 ag3 rfl (cell_ext hu (hc114 0 _ rfl))) ?_
                            refine RA.take 9 rfl (by kernel_rfl) rfl rfl (by decide) (fun _ => r_add (k := .i64) (a := sumA ls (R.take k)) (b := (ls.getD (r.toNat) default).1) (c := (sumA ls (R.take k)) + ((ls.getD (r.toNat) default).1)) rfl rfl (wi64 (by omega))) ?_
                            refine RA.take 10 rfl (by kernel_rfl) rfl rfl (by decide) (fun _ => r_assign_as (v := (.int .i64 ((sumA ls (R.take k)) + ((ls.getD (r.toNat) default).1)))) rfl) ?_
                            refine RA.done (by kernel_rfl) ?_
                            refine wregion ?_
                            refine RL.val rfl rfl (by decide) (r_move_as (v := (.int .i64 (((k : Nat) : Int)))) hs86) ?_
                            refine RL.val rfl rfl (by decide) (r_add (k := .i64) (a := ((k : Nat) : Int)) (b := 1) (c := ((k : Nat) : Int) + 1) rfl rfl (wi64 (by omega))) ?_
                            refine RL.val rfl rfl (by decide) (r_assign_as (v := (.int .i64 (((k : Nat) : Int) + 1))) rfl) ?_
                            refine RL.nil ?_
                            refine ⟨(k + 1), ⟨?_, ?_, ?_, ?_, ?_, ?_, ?_, ?_, ?_, ?_, ?_, ?_⟩, ?_⟩
                            · exact (by repeat (first | exact hoff85 | refine Off.st ?_ (by decide) _ | refine Off.via hoff75 (by decide) ?_ | refine Off.eq hF71 ?_ | refine Off.via hoff56 (by decide) ?_ | refine Off.eq hF52 ?_ | refine Off.via hoff19 (by decide) ?_ | refine Off.eq hF15 ?_))
                            · first | rfl | exact int_eq (by omega) | exact bool_eq (by simp)
                            · exact int_eq (by rw [take_snoc R k hkl, ← hrk, sumA_append]; simp [sumA])
                            · omega
                            · rw [take_snoc R k hkl]; intro p hp; rcases List.mem_append.1 hp with hp | hp; exact hsame p hp; rw [List.mem_singleton] at hp; rw [hp, ← hrk]; exact hmm
                            · rw [take_snoc R k hkl, ← hrk, sumA_append]; have := hls (ls.getD r.toNat default) (getD_mem _ _ (by omega)); simp only [sumA, List.map_cons, List.map_nil, List.sum_cons, List.sum_nil] at *; omega
                            · exact hb4
                            · exact hl
                            · exact hb48
                            · exact hb67
                            · exact hE
                            · omega
                            · (try dsimp only)
                              omega
                          · have hb105p := hb105
                            replace hb105p := of_decide_eq_false hb105p
                            have hend : k = R.length ∨ me ls (R.getD k default) ≠ me ls (R.getD 0 default) := .inr (by rw [← hrk, ← hr0]; exact hb105p)
                            refine wexit ?_
                            refine wseq ?_
                            have hk0 : 0 < k := by rcases Nat.eq_zero_or_pos k with h | h; (subst h; rcases hend with h | h; omega; exact absurd rfl h); exact h
                            refine wregion ?_
                            refine RL.val rfl rfl (by decide) (r_move_as (v := (.int .i64 (nd))) ((hoff85 1 rfl).trans ((hF81 1).trans hs76))) ?_
                            refine RL.val rfl rfl (by decide) (r_move_as (v := (.int .i64 (sumA ls (R.take k)))) hs87) ?_
                            refine RL.val rfl rfl (by decide) (r_min2 (a := nd) (b := sumA ls (R.take k)) rfl rfl) ?_
                            obtain ⟨pt, hpt⟩ : ∃ p, p = if sumA ls (R.take k) < nd then sumA ls (R.take k) else nd := ⟨_, rfl⟩
                            have hptb : 0 ≤ pt ∧ pt ≤ nd ∧ pt ≤ sumA ls (R.take k) := by rw [hpt]; split <;> omega
                            have hRl : R.length ≤ 32 := by omega
                            have hndb : nd ≤ 33554432 := by have h9 := sumA_idx ls; have h10 := (sumA_nonneg hls (G := idx ls.length) (fun i hi => mem_idx.1 hi)).2; have h11 := (sumA_nonneg hls (G := Dn) (fun i hi => mem_idx.1 (hPe.symm.mem (by rw [hOO]; exact List.mem_append_left _ hi)))).1; rw [length_idx] at h10; omega
                            refine RL.val rfl rfl (by decide) (r_assign_as (v := .int .i64 pt) (int_eq hpt.symm)) ?_
                            refine RL.nil ?_
                            refine wseq ?_
                            have hCl := hb67.2
                            refine wdraw mixed fun w115 he116 => ?_
                            have he116z := he116.size
                            replace hl := hl.tr (Sm.ext he116)
                            replace hE := Below.ext hE (by omega) he116
                            replace hb4 := hb4.ext he116
                            replace hb48 := hb48.ext he116
                            replace hb67 := hb67.ext he116
                            have hc117 := hb4.cell (j := 0) (u := vl) rfl
                            refine RA.rd 0 rfl (by kernel_rfl) rfl rfl rfl (by decide) (Ext.refl _) (fun u hu => r_load (v := vl) Try.underlying22 ag22 ((hoff85 2 rfl).trans ((hF81 2).trans ((hoff75 2 rfl).trans ((hF71 2).trans ((hoff56 2 rfl).trans ((hF52 2).trans ((hoff19 2 rfl).trans (hF15 2)))))))) (cell_ext hu hc117)) ?_
                            refine RA.take 1 rfl (by kernel_rfl) rfl rfl (by decide) (fun _ => r_move_as (v := (.slice (some ⟨b46, o, none⟩) (R.length) (R.length))) ((hoff85 9 rfl).trans ((hF81 9).trans hs77))) ?_
                            refine RA.take 2 rfl (by kernel_rfl) rfl rfl (by decide) (fun _ => r_move_as (v := (.int .i64 (((k : Nat) : Int)))) hs86) ?_
                            refine RA.take 3 rfl (by kernel_rfl) rfl rfl (by decide) (fun _ => r_sh (h := ((k : Nat) : Int)) (kk := k) Try.underlying26 ty3 rfl rfl (by omega) (by omega)) ?_
                            refine RA.take 4 rfl (by kernel_rfl) rfl rfl (by decide) (fun _ => r_move_as (v := (.int .i64 (pt))) rfl) ?_
                            refine RA.take 5 rfl (by kernel_rfl) rfl rfl (by decide) (fun _ => r_move_as (v := (.int .i64 (sumA ls (R.take k)))) hs87) ?_
                            refine RA.take 6 rfl (by kernel_rfl) rfl rfl (by decide) (fun _ => r_move_as (v := (.slice (some ⟨b65, 0, none⟩) (ls.length) (ls.length))) ((hoff85 11 rfl).trans ((hF81 11).trans ((hoff75 11 rfl).trans (hF71 11))))) ?_
                            refine RA.all [7] (by kernel_rfl) rfl ?_
                            have hq1 := hb48.lt
                            have hq2 := hb67.lt
                            have hgs := (hb48.sc (D := fun b _ => b = b46) (Nat.le_refl _) (by omega) rfl).take k (by omega) rfl
                            refine RS.call rfl rfl rfl (by decide) (r_call (vl := [vl, (.slice (some ⟨b46, o, none⟩) (k) (R.length)), (.int .i64 (pt)), (.int .i64 (sumA ls (R.take k))), (.slice (some ⟨b65, 0, none⟩) (ls.length) (ls.length))]) ent12 rfl) (divide_spec hl hgs hb67 (fun h => by have := h.2; omega) (fun h => by omega) (by omega) (by omega) hls (by simp; omega) (by simp; omega) (fun i hi => hRin i (List.mem_of_mem_take hi)) rfl rfl (by omega) hCb (by omega)) ?_ RS.nil
                            rintro _ w119 ⟨rfl, ⟨C', hc2, hds, hCb2⟩, hxd⟩
                            refine ⟨.inr (.inl (by kernel_rfl)), ?_⟩
                            have hxdz := hxd.size
                            replace hl := hl.tr (hb67.sm hxd (by (intro h; have := h.2; omega)))
                            replace hE := Below.exc hE (by omega) hxd (by omega)
                            replace hb4 := hb4.exc hxd (by omega)
                            replace hb48 := hb48.exc hxd (by omega)
                            replace hb67 := hc2
                            refine RA.done (by kernel_rfl) ?_
                            refine wseq ?_
                            have hst := curt_step hls (hOO ▸ hPs) (hOO ▸ hPe) hB hk0 hkR hsame hend hnd (by omega) hpt hCl hC hds
                            refine wregion ?_
                            refine RL.val rfl rfl (by decide) (r_move_as (v := (.int .i64 (nd))) ((hoff85 1 rfl).trans ((hF81 1).trans hs76))) ?_
                            refine RL.val rfl rfl (by decide) (r_move_as (v := (.int .i64 (pt))) rfl) ?_
                            refine RL.val rfl rfl (by decide) (r_sub (k := .i64) (a := nd) (b := pt) (c := nd - pt) rfl rfl (wi64 (by omega))) ?_
                            refine RL.val rfl rfl (by decide) (r_assign_as (v := (.int .i64 (nd - pt))) rfl) ?_
                            refine RL.nil ?_
                            refine wregion ?_
                            refine RL.val rfl rfl (by decide) (r_move_as (v := (.slice (some ⟨b46, o, none⟩) (R.length) (R.length))) ((hoff85 9 rfl).trans ((hF81 9).trans hs77))) ?_
                            refine RL.val rfl rfl (by decide) (r_move_as (v := (.int .i64 (((k : Nat) : Int)))) hs86) ?_
                            refine RL.val rfl rfl (by decide) (r_sl (l := ((k : Nat) : Int)) (kk := k) Try.underlying26 ty3 rfl rfl (by omega) (by omega)) ?_
                            refine RL.val rfl rfl (by decide) (r_assign_as (v := (.slice (if R.length = k then ((some ⟨b46, o, none⟩) : Option Addr) else ((some ⟨b46, o, none⟩) : Option Addr).map (·.add (k * 1))) (R.length - k) (R.length - k))) rfl) ?_
                            refine RL.nil ?_
                            refine ⟨(Dn ++ R.take k, R.drop k, C', nd - pt, (if R.length = k then o else o + k)), ⟨?_, ?_, ?_, ?_, ?_, ?_, ?_, ?_, ?_, ?_, ?_, ?_, ?_, ?_, ?_⟩, ?_⟩
                            · exact (by repeat (first | exact hoff75 | refine Off.st ?_ (by decide) _ | refine Off.via hoff85 (by decide) ?_ | refine Off.eq hF81 ?_ | refine Off.via hoff56 (by decide) ?_ | refine Off.eq hF52 ?_ | refine Off.via hoff19 (by decide) ?_ | refine Off.eq hF15 ?_))
                            · first | rfl | exact int_eq (by omega) | exact bool_eq (by simp)
                            · exact sl_if
                            · rw [hOO]; simp
                            · exact hst.1
                            · exact hst.2.1
                            · exact hst.2.2
                            · intro x hx; have := hCb2 x hx; simp; omega
                            · simp; split <;> omega
                            · exact hb4
                            · exact hl
                            · exact ar_cut hb48 (by omega)
                            · exact hb67
                            · exact hE
                            · omega
                            · simp only [List.length_drop]; omega
                        · have hb90p := hb90
                          replace hb90p := of_decide_eq_false hb90p
                          have hend : k = R.length ∨ me ls (R.getD k default) ≠ me ls (R.getD 0 default) := .inl (by omega)
                          refine RA.gno 5 rfl (by kernel_rfl) rfl rfl (.inl (bool_eq hb90)) rfl (by decide) ?_
                          refine RA.gno 6 rfl (by kernel_rfl) rfl rfl (.inl (bool_eq hb90)) rfl (by decide) ?_
                          refine RA.gno 7 rfl (by kernel_rfl) rfl rfl (.inl (bool_eq hb90)) rfl (by decide) ?_
                          refine RA.gno 8 rfl (by kernel_rfl) rfl rfl (.inl (bool_eq hb90)) rfl (by decide) ?_
                          refine RA.gno 9 rfl (by kernel_rfl) rfl rfl (.inl (bool_eq hb90)) rfl (by decide) ?_
                          refine RA.gno 10 rfl (by kernel_rfl) rfl rfl (.inl (bool_eq hb90)) rfl (by decide) ?_
                          refine RA.gno 11 rfl (by kernel_rfl) rfl rfl (.inl (bool_eq hb90)) rfl (by decide) ?_
                          refine RA.gno 12 rfl (by kernel_rfl) rfl rfl (.inl (bool_eq hb90)) rfl (by decide) ?_
                          refine RA.gno 13 rfl (by kernel_rfl) rfl rfl (.inl (bool_eq hb90)) rfl (by decide) ?_
                          refine RA.gno 14 rfl (by kernel_rfl) rfl rfl (.inl (bool_eq hb90)) rfl (by decide) ?_
                          refine RA.gno 15 rfl (by kernel_rfl) rfl rfl (.inl (bool_eq hb90)) rfl (by decide) ?_
                          refine RA.gno 16 rfl (by kernel_rfl) rfl rfl (.inl (bool_eq hb90)) rfl (by decide) ?_
                          refine RA.gno 17 rfl (by kernel_rfl) rfl rfl (.inl (bool_eq hb90)) rfl (by decide) ?_
                          refine RA.gno 18 rfl (by kernel_rfl) rfl rfl (.inl (bool_eq hb90)) rfl (by decide) ?_
                          refine RA.gno 19 rfl (by kernel_rfl) rfl rfl (.inl (bool_eq hb90)) rfl (by decide) ?_
                          refine RA.gno 20 rfl (by kernel_rfl) rfl rfl (.inl (bool_eq hb90)) rfl (by decide) ?_
                          refine RA.take 21 rfl (by kernel_rfl) rfl rfl (by decide) (fun _ => r_pick_f (v := (.bool (false))) (bool_eq hb90) rfl) ?_
                          refine RA.done (by kernel_rfl) ?_
                          refine wcond_f rfl ?_
                          refine wexit ?_
                          refine wseq ?_
                          have hk0 : 0 < k := by rcases Nat.eq_zero_or_pos k with h | h; (subst h; rcases hend with h | h; omega; exact absurd rfl h); exact h
                          refine wregion ?_
                          refine RL.val rfl rfl (by decide) (r_move_as (v := (.int .i64 (nd))) ((hoff85 1 rfl).trans ((hF81 1).trans hs76))) ?_
                          refine RL.val rfl rfl (by decide) (r_move_as (v := (.int .i64 (sumA ls (R.take k)))) hs87) ?_
                          refine RL.val rfl rfl (by decide) (r_min2 (a := nd) (b := sumA ls (R.take k)) rfl rfl) ?_
                          obtain ⟨pt, hpt⟩ : ∃ p, p = if sumA ls (R.take k) < nd then sumA ls (R.take k) else nd := ⟨_, rfl⟩
                          have hptb : 0 ≤ pt ∧ pt ≤ nd ∧ pt ≤ sumA ls (R.take k) := by rw [hpt]; split <;> omega
                          have hRl : R.length ≤ 32 := by omega
                          have hndb : nd ≤ 33554432 := by have h9 := sumA_idx ls; have h10 := (sumA_nonneg hls (G := idx ls.length) (fun i hi => mem_idx.1 hi)).2; have h11 := (sumA_nonneg hls (G := Dn) (fun i hi => mem_idx.1 (hPe.symm.mem (by rw [hOO]; exact List.mem_append_left _ hi)))).1; rw [length_idx] at h10; omega
                          refine RL.val rfl rfl (by decide) (r_assign_as (v := .int .i64 pt) (int_eq hpt.symm)) ?_
                          refine RL.nil ?_
                          refine wseq ?_
                          have hCl := hb67.2
                          refine wdraw mixed fun w121 he122 => ?_
                          have he122z := he122.size
                          replace hl := hl.tr (Sm.ext he122)
                          replace hE := Below.ext hE (by omega) he122
                          replace hb4 := hb4.ext he122
                          replace hb48 := hb48.ext he122
                          replace hb67 := hb67.ext he122
                          have hc123 := hb4.cell (j := 0) (u := vl) rfl
                          refine RA.rd 0 rfl (by kernel_rfl) rfl rfl rfl (by decide) (Ext.refl _) (fun u hu => r_load (v := vl) Try.underlying22 ag22 ((hoff85 2 rfl).trans ((hF81 2).trans ((hoff75 2 rfl).trans ((hF71 2).trans ((hoff56 2 rfl).trans ((hF52 2).trans ((hoff19 2 rfl).trans (hF15 2)))))))) (cell_ext hu hc123)) ?_
                          refine RA.take 1 rfl (by kernel_rfl) rfl rfl (by decide) (fun _ => r_move_as (v := (.slice (some ⟨b46, o, none⟩) (R.length) (R.length))) ((hoff85 9 rfl).trans ((hF81 9).trans hs77))) ?_
                          refine RA.take 2 rfl (by kernel_rfl) rfl rfl (by decide) (fun _ => r_move_as (v := (.int .i64 (((k : Nat) : Int)))) hs86) ?_
                          refine RA.take 3 rfl (by kernel_rfl) rfl rfl (by decide) (fun _ => r_sh (h := ((k : Nat) : Int)) (kk := k) Try.underlying26 ty3 rfl rfl (by omega) (by omega)) ?_
                          refine RA.take 4 rfl (by kernel_rfl) rfl rfl (by decide) (fun _ => r_move_as (v := (.int .i64 (pt))) rfl) ?_
                          refine RA.take 5 rfl (by kernel_rfl) rfl rfl (by decide) (fun _ => r_move_as (v := (.int .i64 (sumA ls (R.take k)))) hs87) ?_
                          refine RA.take 6 rfl (by kernel_rfl) rfl rfl (by decide) (fun _ => r_move_as (v := (.slice (some ⟨b65, 0, none⟩) (ls.length) (ls.length))) ((hoff85 11 rfl).trans ((hF81 11).trans ((hoff75 11 rfl).trans (hF71 11))))) ?_
                          refine RA.all [7] (by kernel_rfl) rfl ?_
                          have hq1 := hb48.lt
                          have hq2 := hb67.lt
                          have hgs := (hb48.sc (D := fun b _ => b = b46) (Nat.le_refl _) (by omega) rfl).take k (by omega) rfl
                          refine RS.call rfl rfl rfl (by decide) (r_call (vl := [vl, (.slice (some ⟨b46, o, none⟩) (k) (R.length)), (.int .i64 (pt)), (.int .i64 (sumA ls (R.take k))), (.slice (some ⟨b65, 0, none⟩) (ls.length) (ls.length))]) ent12 rfl) (divide_spec hl hgs hb67 (fun h => by have := h.2; omega) (fun h => by omega) (by omega) (by omega) hls (by simp; omega) (by simp; omega) (fun i hi => hRin i (List.mem_of_mem_take hi)) rfl rfl (by omega) hCb (by omega)) ?_ RS.nil
                          rintro _ w125 ⟨rfl, ⟨C', hc2, hds, hCb2⟩, hxd⟩
                          refine ⟨.inr (.inl (by kernel_rfl)), ?_⟩
                          have hxdz := hxd.size
                          replace hl := hl.tr (hb67.sm hxd (by (intro h; have := h.2; omega)))
                          replace hE := Below.exc hE (by omega) hxd (by omega)
                          replace hb4 := hb4.exc hxd (by omega)
                          replace hb48 := hb48.exc hxd (by omega)
                          replace hb67 := hc2
                          refine RA.done (by kernel_rfl) ?_
                          refine wseq ?_
                          have hst := curt_step hls (hOO ▸ hPs) (hOO ▸ hPe) hB hk0 hkR hsame hend hnd (by omega) hpt hCl hC hds
                          refine wregion ?_
                          refine RL.val rfl rfl (by decide) (r_move_as (v := (.int .i64 (nd))) ((hoff85 1 rfl).trans ((hF81 1).trans hs76))) ?_
                          refine RL.val rfl rfl (by decide) (r_move_as (v := (.int .i64 (pt))) rfl) ?_
                          refine RL.val rfl rfl (by decide) (r_sub (k := .i64) (a := nd) (b := pt) (c := nd - pt) rfl rfl (wi64 (by omega))) ?_
                          refine RL.val rfl rfl (by decide) (r_assign_as (v := (.int .i64 (nd - pt))) rfl) ?_
                          refine RL.nil ?_
                          refine wregion ?_
                          refine RL.val rfl rfl (by decide) (r_move_as (v := (.slice (some ⟨b46, o, none⟩) (R.length) (R.length))) ((hoff85 9 rfl).trans ((hF81 9).trans hs77))) ?_
                          refine RL.val rfl rfl (by decide) (r_move_as (v := (.int .i64 (((k : Nat) : Int)))) hs86) ?_
                          refine RL.val rfl rfl (by decide) (r_sl (l := ((k : Nat) : Int)) (kk := k) Try.underlying26 ty3 rfl rfl (by omega) (by omega)) ?_
                          refine RL.val rfl rfl (by decide) (r_assign_as (v := (.slice (if R.length = k then ((some ⟨b46, o, none⟩) : Option Addr) else ((some ⟨b46, o, none⟩) : Option Addr).map (·.add (k * 1))) (R.length - k) (R.length - k))) rfl) ?_
                          refine RL.nil ?_
                          refine ⟨(Dn ++ R.take k, R.drop k, C', nd - pt, (if R.length = k then o else o + k)), ⟨?_, ?_, ?_, ?_, ?_, ?_, ?_, ?_, ?_, ?_, ?_, ?_, ?_, ?_, ?_⟩, ?_⟩
                          · exact (by repeat (first | exact hoff75 | refine Off.st ?_ (by decide) _ | refine Off.via hoff85 (by decide) ?_ | refine Off.eq hF81 ?_ | refine Off.via hoff56 (by decide) ?_ | refine Off.eq hF52 ?_ | refine Off.via hoff19 (by decide) ?_ | refine Off.eq hF15 ?_))
                          · first | rfl | exact int_eq (by omega) | exact bool_eq (by simp)
                          · exact sl_if
                          · rw [hOO]; simp
                          · exact hst.1
                          · exact hst.2.1
                          · exact hst.2.2
                          · intro x hx; have := hCb2 x hx; simp; omega
                          · simp; split <;> omega
                          · exact hb4
                          · exact hl
                          · exact ar_cut hb48 (by omega)
                          · exact hb67
                          · exact hE
                          · omega
                          · simp only [List.length_drop]; omega
                    · have hb79p := hb79
                      replace hb79p := of_decide_eq_false hb79p
                      have hfin : R = [] ∨ nd ≤ 0 := .inr (by omega)
                      refine wexit ?_
                      refine wseq ?_
                      refine wregion ?_
                      refine RL.val rfl rfl (by decide) (r_move_as (v := (.slice (some ⟨b65, 0, none⟩) (ls.length) (ls.length))) ((hoff75 11 rfl).trans (hF71 11))) ?_
                      refine RL.val rfl rfl (by decide) (r_assign_as (v := (.slice (some ⟨b65, 0, none⟩) (ls.length) (ls.length))) rfl) ?_
                      refine RL.val rfl rfl (by decide) (r_assign_as (v := (.int .i64 (0))) rfl) ?_
                      refine RL.nil ?_
                      refine wret ?_
                      refine ⟨[(.slice (some ⟨b65, 0, none⟩) (ls.length) (ls.length)), (.int .i64 (0))], ⟨rfl, ⟨rfl, trivial⟩⟩, ?_⟩
                      have hce : curtE ls need = 0 := by unfold curtE; rw [if_neg (by omega), if_pos hls, if_neg (by omega)]
                      have hCC := curt_end hls (hOO ▸ hPe) hB hnd hfin hb67.2 hC
                      refine ⟨.inr ⟨hce, _, rfl, ?_⟩, hE⟩
                      rw [← hCC]
                      exact hb67.sc (Nat.le_refl _) (by omega) (by omega)
                  · have hb78p := hb78
                    replace hb78p := of_decide_eq_false hb78p
                    have hfin : R = [] ∨ nd ≤ 0 := .inl (List.eq_nil_of_length_eq_zero (by omega))
                    refine RL.gno rfl rfl (bool_eq hb78) rfl (by decide) ?_
                    refine RL.gno rfl rfl (bool_eq hb78) rfl (by decide) ?_
                    refine RL.val rfl rfl (by decide) (r_pick_f (v := (.bool (false))) (bool_eq hb78) rfl) ?_
                    refine RL.nil ?_
                    refine wcond_f rfl ?_
                    refine wexit ?_
                    refine wseq ?_
                    refine wregion ?_
                    refine RL.val rfl rfl (by decide) (r_move_as (v := (.slice (some ⟨b65, 0, none⟩) (ls.length) (ls.length))) ((hoff75 11 rfl).trans (hF71 11))) ?_
                    refine RL.val rfl rfl (by decide) (r_assign_as (v := (.slice (some ⟨b65, 0, none⟩) (ls.length) (ls.length))) rfl) ?_
                    refine RL.val rfl rfl (by decide) (r_assign_as (v := (.int .i64 (0))) rfl) ?_
                    refine RL.nil ?_
                    refine wret ?_
                    refine ⟨[(.slice (some ⟨b65, 0, none⟩) (ls.length) (ls.length)), (.int .i64 (0))], ⟨rfl, ⟨rfl, trivial⟩⟩, ?_⟩
                    have hce : curtE ls need = 0 := by unfold curtE; rw [if_neg (by omega), if_pos hls, if_neg (by omega)]
                    have hCC := curt_end hls (hOO ▸ hPe) hB hnd hfin hb67.2 hC
                    refine ⟨.inr ⟨hce, _, rfl, ?_⟩, hE⟩
                    rw [← hCC]
                    exact hb67.sc (Nat.le_refl _) (by omega) (by omega)

end Go.Proofs.Ytppgppnkhpjlpaa
