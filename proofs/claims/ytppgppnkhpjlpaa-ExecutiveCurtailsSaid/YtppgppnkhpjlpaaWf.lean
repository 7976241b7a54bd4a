/- Walks, printed by program. -/
import Derived.Test.YtppgppnkhpjlpaaWe
import Derived.Test.YtppgppnkhpjlpaaVgi
namespace Go.Proofs.Ytppgppnkhpjlpaa
open Go.Vg Go.RowKit
set_option linter.unusedVariables false

open Go.Vm

theorem ext_getD {l m : List Int} (hl : l.length = m.length) (h : ∀ j, j < l.length → l.getD j default = m.getD j default) : l = m := by
  apply List.ext_getElem hl
  intro j h1 h2
  have := h j h1
  simpa [h1, h2] using this

set_option maxHeartbeats 1000000 in
theorem ints17 {D1 D2 : Nat → TypeId → Prop} {vs vt : Value} {G H : List Int} {w : World} (hs : Sg (gI .i64) D1 w vs G) (ht : Sg (gI .i64) D2 w vt H) :
    Calls Try.prog 17 #[vs, vt] w fun e w' => ∃ v, e = .returned v ∧ v = .bool (decide (G = H)) ∧ Ext w w' := by
  have hE : Below w.heap.size w w := Below.refl _ _
  refine calls_of (n := 26) (rs := [.tmp 4]) Try.func17 rfl rfl rfl (Nat.le_of_ble_eq_true rfl) ?_
  refine wset fun F0 hF0 => ?_
  refine wseq ?_
  refine wregion ?_
  refine RL.val rfl rfl (by decide) (r_assign_as (v := (.bool (false))) rfl) ?_
  refine RL.nil ?_
  refine wseq ?_
  refine wseq ?_
  refine wregion ?_
  refine RL.val rfl rfl (by decide) (r_move_as (v := vs) (hF0 0)) ?_
  obtain ⟨A1, c2, hv3, hc4, hc5⟩ := hs.len
  refine RL.val rfl rfl (by decide) (r_len Try.underlying26 hv3) ?_
  refine RL.val rfl rfl (by decide) (r_move_as (v := vt) (hF0 1)) ?_
  obtain ⟨A6, c7, hv8, hc9, hc10⟩ := ht.len
  refine RL.val rfl rfl (by decide) (r_len Try.underlying26 hv8) ?_
  refine RL.val rfl rfl (by decide) (r_neq (k := .i64) (a := ((G.length : Nat) : Int)) (b := ((H.length : Nat) : Int)) rfl rfl) ?_
  refine RL.nil ?_
  refine wcond (b := decide (((G.length : Nat) : Int) ≠ ((H.length : Nat) : Int))) rfl (fun hb11 => ?_) (fun hb11 => ?_)
  · have hb11p := hb11
    replace hb11p := of_decide_eq_true hb11p
    have hne := hb11p
    refine wseq ?_
    refine wregion ?_
    refine RL.val rfl rfl (by decide) (r_assign_as (v := (.bool (false))) rfl) ?_
    refine RL.nil ?_
    refine wret ?_
    refine ⟨[(.bool (false))], ⟨rfl, trivial⟩, ?_⟩
    exact ⟨bool_eq (decide_eq_false (fun h => by subst h; omega)).symm, hE⟩
  · have hb11p := hb11
    replace hb11p := of_decide_eq_false hb11p
    refine wskip ?_
    refine wseq ?_
    refine wseq ?_
    refine wregion ?_
    refine RL.val rfl rfl (by decide) (r_assign_as (v := (.int .i64 (0))) rfl) ?_
    refine RL.nil ?_
    refine wblock ?_
    refine wset fun F12 hF13 => ?_
    refine wloop (σ := Nat) (fun (k : Nat) fl wl => Off [4, 5, 11, 12, 13, 14, 15, 16, 17, 18, 19, 20, 21, 22, 23, 24, 25] F12 fl ∧ fl 5 = (.int .i64 (((k : Nat) : Int))) ∧ (k ≤ G.length) ∧ (∀ j, j < k → G.getD j default = H.getD j default) ∧ (Sg (gI .i64) D1 wl vs G) ∧ (Sg (gI .i64) D2 wl vt H) ∧ (Below w.heap.size w wl) ∧ (w.heap.size ≤ wl.heap.size)) (fun (k : Nat) => G.length - k) (0) ?_ ?_
    · exact ⟨Off.refl _ _, (hF13 5).trans (rfl), Nat.zero_le _, (fun j hj => absurd hj (Nat.not_lt_zero _)), hs, ht, hE, Nat.le_refl _⟩
    · clear hs ht hE
      rintro k f15 w16 ⟨hoff17, hs18, hk, heq, hs, ht, hE, hz14⟩
      refine wseq ?_
      refine wseq ?_
      refine wregion ?_
      refine RL.val rfl rfl (by decide) (r_move_as (v := (.int .i64 (((k : Nat) : Int)))) hs18) ?_
      refine RL.val rfl rfl (by decide) (r_move_as (v := vs) ((hoff17 0 rfl).trans ((hF13 0).trans (hF0 0)))) ?_
      refine RL.val rfl rfl (by decide) (r_len Try.underlying26 hv3) ?_
      refine RL.val rfl rfl (by decide) (r_lss (k := .i64) (a := ((k : Nat) : Int)) (b := ((G.length : Nat) : Int)) rfl rfl) ?_
      refine RL.nil ?_
      refine wcond (b := decide (((k : Nat) : Int) < ((G.length : Nat) : Int))) rfl (fun hb19 => ?_) (fun hb19 => ?_)
      · have hb19p := hb19
        replace hb19p := of_decide_eq_true hb19p
        refine wskip ?_
        refine wseq ?_
        refine wblock ?_
        refine wseq ?_
        refine wdraw mixed fun w20 he21 => ?_
        have he21z := he21.size
        replace hs := hs.tr (Sm.ext he21)
        replace ht := ht.tr (Sm.ext he21)
        replace hE := Below.ext hE (by omega) he21
        refine RA.take 0 rfl (by kernel_rfl) rfl rfl (by decide) (fun _ => r_move_as (v := vs) ((hoff17 0 rfl).trans ((hF13 0).trans (hF0 0)))) ?_
        refine RA.take 1 rfl (by kernel_rfl) rfl rfl (by decide) (fun _ => r_move_as (v := (.int .i64 (((k : Nat) : Int)))) hs18) ?_
        obtain ⟨b22, o23, c24, hv25, hc26⟩ := hs.ix (i := ((k : Nat) : Int)) (k) (by omega) (by omega)
        refine RA.take 2 rfl (by kernel_rfl) rfl rfl (by decide) (fun _ => r_indexAddr (i := ((k : Nat) : Int)) Try.underlying26 ty3 hv25 rfl (by omega) (by omega)) ?_
        refine RA.rd 3 rfl (by kernel_rfl) rfl rfl rfl (by decide) (Ext.refl _) (fun u hu => r_load (v := (.int .i64 (G.getD (k) default))) Try.underlying3 ag3 rfl (cell_ext hu hc26)) ?_
        refine RA.take 4 rfl (by kernel_rfl) rfl rfl (by decide) (fun _ => r_move_as (v := vt) ((hoff17 1 rfl).trans ((hF13 1).trans (hF0 1)))) ?_
        refine RA.take 5 rfl (by kernel_rfl) rfl rfl (by decide) (fun _ => r_move_as (v := (.int .i64 (((k : Nat) : Int)))) hs18) ?_
        obtain ⟨b27, o28, c29, hv30, hc31⟩ := ht.ix (i := ((k : Nat) : Int)) (k) (by omega) (by omega)
        refine RA.take 6 rfl (by kernel_rfl) rfl rfl (by decide) (fun _ => r_indexAddr (i := ((k : Nat) : Int)) Try.underlying26 ty3 hv30 rfl (by omega) (by omega)) ?_
        refine RA.rd 7 rfl (by kernel_rfl) rfl rfl rfl (by decide) (Ext.refl _) (fun u hu => r_load (v := (.int .i64 (H.getD (k) default))) Try.underlying3 ag3 rfl (cell_ext hu hc31)) ?_
        refine RA.take 8 rfl (by kernel_rfl) rfl rfl (by decide) (fun _ => r_neq (k := .i64) (a := G.getD (k) default) (b := H.getD (k) default) rfl rfl) ?_
        refine RA.done (by kernel_rfl) ?_
        refine wcond (b := decide ((G.getD (k) default) ≠ (H.getD (k) default))) rfl (fun hb32 => ?_) (fun hb32 => ?_)
        · have hb32p := hb32
          replace hb32p := of_decide_eq_true hb32p
          have hne := hb32p
          refine wseq ?_
          refine wregion ?_
          refine RL.val rfl rfl (by decide) (r_assign_as (v := (.bool (false))) rfl) ?_
          refine RL.nil ?_
          refine wret ?_
          refine ⟨[(.bool (false))], ⟨rfl, trivial⟩, ?_⟩
          exact ⟨bool_eq (decide_eq_false (fun h => by subst h; omega)).symm, hE⟩
        · have hb32p := hb32
          replace hb32p := of_decide_eq_false hb32p
          refine wskip ?_
          refine wregion ?_
          refine RL.val rfl rfl (by decide) (r_move_as (v := (.int .i64 (((k : Nat) : Int)))) hs18) ?_
          refine RL.val rfl rfl (by decide) (r_add (k := .i64) (a := ((k : Nat) : Int)) (b := 1) (c := ((k : Nat) : Int) + 1) rfl rfl (wi64 (by omega))) ?_
          refine RL.val rfl rfl (by decide) (r_assign_as (v := (.int .i64 (((k : Nat) : Int) + 1))) rfl) ?_
          refine RL.nil ?_
          refine ⟨(k + 1), ⟨?_, ?_, ?_, ?_, ?_, ?_, ?_, ?_⟩, ?_⟩
          · exact (by repeat (first | exact hoff17 | refine Off.st ?_ (by decide) _))
          · first | rfl | exact int_eq (by omega) | exact bool_eq (by simp)
          · omega
          · intro j hj; rcases Nat.lt_or_eq_of_le (Nat.le_of_lt_succ hj) with h | rfl; exact heq j h; omega
          · exact hs
          · exact ht
          · exact hE
          · omega
          · (try dsimp only)
            omega
      · have hb19p := hb19
        replace hb19p := of_decide_eq_false hb19p
        refine wexit ?_
        refine wseq ?_
        refine wregion ?_
        refine RL.val rfl rfl (by decide) (r_assign_as (v := (.bool (true))) rfl) ?_
        refine RL.nil ?_
        refine wret ?_
        refine ⟨[(.bool (true))], ⟨rfl, trivial⟩, ?_⟩
        exact ⟨bool_eq (decide_eq_true (ext_getD (by omega) (fun j hj => heq j (by omega)))).symm, hE⟩

set_option maxHeartbeats 1000000 in
theorem ints18 {D1 D2 : Nat → TypeId → Prop} {vs vt : Value} {G H : List Int} {w : World} (hs : Sg (gI .i64) D1 w vs G) (ht : Sg (gI .i64) D2 w vt H) :
    Calls Try.prog 8 #[vs, vt] w fun e w' => ∃ v, e = .returned v ∧ v = .bool (decide (G = H)) ∧ Ext w w' := by
  have hE : Below w.heap.size w w := Below.refl _ _
  refine calls_of (n := 8) (rs := [.tmp 4]) Try.func8 rfl rfl rfl (Nat.le_of_ble_eq_true rfl) ?_
  refine wset fun F0 hF0 => ?_
  refine wseq ?_
  refine wregion ?_
  refine RL.val rfl rfl (by decide) (r_assign_as (v := (.bool (false))) rfl) ?_
  refine RL.nil ?_
  refine wseq ?_
  refine wregion ?_
  refine RL.val rfl rfl (by decide) (r_move_as (v := vs) (hF0 0)) ?_
  refine RL.val rfl rfl (by decide) (r_move_as (v := vt) (hF0 1)) ?_
  refine RL.call rfl rfl (by decide) (r_call (vl := [vs, vt]) ent17 rfl) (ints17 hs ht) ?_
  rintro vq3 w1 ⟨hq4, he2⟩
  have he2z := he2.size
  replace hs := hs.tr (Sm.ext he2)
  replace ht := ht.tr (Sm.ext he2)
  replace hE := Below.ext hE (by omega) he2
  subst hq4
  refine RL.val rfl rfl (by decide) (r_assign_as (v := (.bool (decide (G = H)))) rfl) ?_
  refine RL.nil ?_
  refine wret ?_
  refine ⟨[(.bool (decide (G = H)))], ⟨rfl, trivial⟩, ?_⟩
  exact ⟨rfl, hE⟩

set_option maxHeartbeats 1000000 in
theorem awake_spec {w : World} :
    Calls Try.prog 7 #[] w fun e w' => ∃ v, e = .returned v ∧ v = .bool true ∧ Ext w w' := by
  have hE : Below w.heap.size w w := Below.refl _ _
  refine calls_of (n := 36) (rs := [.tmp 0]) Try.func7 rfl rfl rfl (Nat.le_of_ble_eq_true rfl) ?_
  refine wset fun F0 hF0 => ?_
  refine wseq ?_
  refine wregion ?_
  refine RL.val rfl rfl (by decide) (r_assign_as (v := (.bool (false))) rfl) ?_
  refine RL.nil ?_
  refine wseq ?_
  refine wregion ?_
  refine RL.val rfl rfl (by decide) (r_build (vl := [(0, (.int .i64 (10))), (1, (.int .i64 (1)))]) (cs := [(.int .i64 (10)), (.int .i64 (1))]) Try.underlying25 ty25 rfl pl25 rfl) ?_
  refine RL.val rfl rfl (by decide) (r_build (vl := [(0, (.int .i64 (20))), (1, (.int .i64 (2)))]) (cs := [(.int .i64 (20)), (.int .i64 (2))]) Try.underlying25 ty25 rfl pl25 rfl) ?_
  refine RL.val rfl rfl (by decide) (r_build (vl := [(0, (.int .i64 (10))), (1, (.int .i64 (2)))]) (cs := [(.int .i64 (10)), (.int .i64 (2))]) Try.underlying25 ty25 rfl pl25 rfl) ?_
  refine RL.run rfl rfl (by decide) (h_lit (vl := [(0, (.agg #[(.int .i64 (10)), (.int .i64 (1))])), (1, (.agg #[(.int .i64 (20)), (.int .i64 (2))])), (2, (.agg #[(.int .i64 (10)), (.int .i64 (2))]))]) (cs := [(.int .i64 (10)), (.int .i64 (1)), (.int .i64 (20)), (.int .i64 (2)), (.int .i64 (10)), (.int .i64 (2))]) Try.underlying22 ty25 rfl (by decide) (by first | (simp [Instr.fill, Value.cells]; done) | rfl | kernel_rfl)) ?_
  rintro _ w1 ⟨b2, rfl, hs5, hb4, he3⟩
  have he3z := he3.size
  replace hE := Below.ext hE (by omega) he3
  have hb4l := hb4.lt
  refine RL.val rfl rfl (by decide) (r_assign_as (v := (.slice (some ⟨b2, 0, none⟩) (3) (3))) rfl) ?_
  refine RL.nil ?_
  refine wseq ?_
  have hl := hb4.ss (c := loadC) (size := 2) (D := fun _ _ => True) (xs := [(10, 1), (20, 2), (10, 2)]) (n := 3) trivial rfl rfl (by decide) (fun _ _ => rfl) (by decide)
  refine wregion ?_
  refine RL.val rfl rfl (by decide) (r_move_as (v := (.slice (some ⟨b2, 0, none⟩) (3) (3))) rfl) ?_
  refine RL.call rfl rfl (by decide) (r_call (vl := [(.slice (some ⟨b2, 0, none⟩) (3) (3)), (.int .i64 (19))]) ent5 rfl) (curtail_spec (need := 19) hl) ?_
  rintro vq8 w6 ⟨hq9, he7⟩
  have he7z := he7.size
  replace hE := Below.ext hE (by omega) he7
  replace hb4 := hb4.ext he7
  replace hl := hl.tr (Sm.ext he7)
  obtain ⟨-, vr10, rfl, hcu11⟩ := hq9.resolve_left (fun h => h.1 (by unfold curtE; rw [if_neg (by decide), if_pos (by decide), if_neg (by decide)]))
  refine RL.val rfl rfl (by decide) (r_move_as (v := (.tuple #[vr10, (.int .i64 (0))])) rfl) ?_
  refine RL.val rfl rfl (by decide) (r_extract (v := vr10) rfl rfl) ?_
  refine RL.val rfl rfl (by decide) (r_extract (v := (.int .i64 (0))) rfl rfl) ?_
  refine RL.val rfl rfl (by decide) (r_assign_as (v := vr10) rfl) ?_
  refine RL.val rfl rfl (by decide) (r_assign_as (v := (.int .i64 (0))) rfl) ?_
  refine RL.nil ?_
  refine wseq ?_
  refine wregion ?_
  refine RL.val rfl rfl (by decide) (r_move_as (v := (.slice (some ⟨b2, 0, none⟩) (3) (3))) rfl) ?_
  refine RL.call rfl rfl (by decide) (r_call (vl := [(.slice (some ⟨b2, 0, none⟩) (3) (3)), (.int .i64 (20))]) ent5 rfl) (curtail_spec (need := 20) hl) ?_
  rintro vq14 w12 ⟨hq15, he13⟩
  have he13z := he13.size
  replace hE := Below.ext hE (by omega) he13
  replace hb4 := hb4.ext he13
  replace hl := hl.tr (Sm.ext he13)
  replace hcu11 := hcu11.tr (Sm.ext he13)
  obtain ⟨-, vr16, rfl, hcu17⟩ := hq15.resolve_left (fun h => h.1 (by unfold curtE; rw [if_neg (by decide), if_pos (by decide), if_neg (by decide)]))
  refine RL.val rfl rfl (by decide) (r_move_as (v := (.tuple #[vr16, (.int .i64 (0))])) rfl) ?_
  refine RL.val rfl rfl (by decide) (r_extract (v := vr16) rfl rfl) ?_
  refine RL.val rfl rfl (by decide) (r_extract (v := (.int .i64 (0))) rfl rfl) ?_
  refine RL.val rfl rfl (by decide) (r_assign_as (v := vr16) rfl) ?_
  refine RL.val rfl rfl (by decide) (r_assign_as (v := (.int .i64 (0))) rfl) ?_
  refine RL.nil ?_
  refine wseq ?_
  refine wregion ?_
  refine RL.val rfl rfl (by decide) (r_move_as (v := (.int .i64 (0))) rfl) ?_
  refine RL.val rfl rfl (by decide) (r_eql (k := .i64) (a := 0) (b := 0) rfl rfl) ?_
  refine RL.val rfl rfl (by decide) (r_move_as (v := (.bool (true))) rfl) ?_
  refine RL.gval rfl rfl rfl rfl (by decide) (r_move_as (v := (.int .i64 (0))) rfl) ?_
  refine RL.gval rfl rfl rfl rfl (by decide) (r_eql (k := .i64) (a := 0) (b := 0) rfl rfl) ?_
  refine RL.val rfl rfl (by decide) (r_pick_t (v := (.bool (true))) rfl rfl) ?_
  refine RL.val rfl rfl (by decide) (r_move_as (v := (.bool (true))) rfl) ?_
  refine RL.gval rfl rfl rfl rfl (by decide) (r_move_as (v := vr10) rfl) ?_
  refine RL.grun rfl rfl rfl rfl (by decide) (h_lit (vl := [(0, (.int .i64 (10))), (1, (.int .i64 (6))), (2, (.int .i64 (3)))]) (cs := [(.int .i64 (10)), (.int .i64 (6)), (.int .i64 (3))]) Try.underlying26 ty3 rfl (by decide) (by first | (simp [Instr.fill, Value.cells]; done) | rfl | kernel_rfl)) ?_
  rintro _ w18 ⟨b19, rfl, hs22, hb21, he20⟩
  have he20z := he20.size
  replace hE := Below.ext hE (by omega) he20
  replace hb4 := hb4.ext he20
  replace hl := hl.tr (Sm.ext he20)
  replace hcu11 := hcu11.tr (Sm.ext he20)
  replace hcu17 := hcu17.tr (Sm.ext he20)
  have hb21l := hb21.lt
  refine RL.gcall rfl rfl rfl rfl (by decide) (r_call (vl := [vr10, (.slice (some ⟨b19, 0, none⟩) (3) (3))]) ent8 rfl) (ints18 hcu11 (hb21.sg (g := gI .i64) (D := fun _ _ => True) (xs := [10, 6, 3]) trivial rfl rfl (by decide))) ?_
  rintro vq25 w23 ⟨hq26, he24⟩
  have he24z := he24.size
  replace hE := Below.ext hE (by omega) he24
  replace hb4 := hb4.ext he24
  replace hl := hl.tr (Sm.ext he24)
  replace hcu11 := hcu11.tr (Sm.ext he24)
  replace hcu17 := hcu17.tr (Sm.ext he24)
  replace hb21 := hb21.ext he24
  obtain rfl : vq25 = .bool true := hq26.trans (bool_eq (by decide +kernel))
  refine RL.val rfl rfl (by decide) (r_pick_t (v := (.bool (true))) rfl rfl) ?_
  refine RL.val rfl rfl (by decide) (r_move_as (v := (.bool (true))) rfl) ?_
  refine RL.gval rfl rfl rfl rfl (by decide) (r_move_as (v := vr16) rfl) ?_
  refine RL.grun rfl rfl rfl rfl (by decide) (h_lit (vl := [(0, (.int .i64 (10))), (1, (.int .i64 (7))), (2, (.int .i64 (3)))]) (cs := [(.int .i64 (10)), (.int .i64 (7)), (.int .i64 (3))]) Try.underlying26 ty3 rfl (by decide) (by first | (simp [Instr.fill, Value.cells]; done) | rfl | kernel_rfl)) ?_
  rintro _ w27 ⟨b28, rfl, hs31, hb30, he29⟩
  have he29z := he29.size
  replace hE := Below.ext hE (by omega) he29
  replace hb4 := hb4.ext he29
  replace hl := hl.tr (Sm.ext he29)
  replace hcu11 := hcu11.tr (Sm.ext he29)
  replace hcu17 := hcu17.tr (Sm.ext he29)
  replace hb21 := hb21.ext he29
  have hb30l := hb30.lt
  refine RL.gcall rfl rfl rfl rfl (by decide) (r_call (vl := [vr16, (.slice (some ⟨b28, 0, none⟩) (3) (3))]) ent8 rfl) (ints18 hcu17 (hb30.sg (g := gI .i64) (D := fun _ _ => True) (xs := [10, 7, 3]) trivial rfl rfl (by decide))) ?_
  rintro vq34 w32 ⟨hq35, he33⟩
  have he33z := he33.size
  replace hE := Below.ext hE (by omega) he33
  replace hb4 := hb4.ext he33
  replace hl := hl.tr (Sm.ext he33)
  replace hcu11 := hcu11.tr (Sm.ext he33)
  replace hcu17 := hcu17.tr (Sm.ext he33)
  replace hb21 := hb21.ext he33
  replace hb30 := hb30.ext he33
  obtain rfl : vq34 = .bool true := hq35.trans (bool_eq (by decide +kernel))
  refine RL.val rfl rfl (by decide) (r_pick_t (v := (.bool (true))) rfl rfl) ?_
  refine RL.val rfl rfl (by decide) (r_assign_as (v := (.bool (true))) rfl) ?_
  refine RL.nil ?_
  refine wret ?_
  refine ⟨[(.bool (true))], ⟨rfl, trivial⟩, ?_⟩
  exact ⟨rfl, hE⟩

end Go.Proofs.Ytppgppnkhpjlpaa
