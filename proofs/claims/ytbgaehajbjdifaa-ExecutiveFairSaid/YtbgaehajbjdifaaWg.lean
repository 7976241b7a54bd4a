/- Walks, printed by program. -/
import Derived.Test.YtbgaehajbjdifaaWf
import Derived.Test.YtbgaehajbjdifaaMfair
namespace Go.Proofs.Ytbgaehajbjdifaa
open Go.Vg Go.RowKit
set_option linter.unusedVariables false

open Go.Vm

def ldF (x : Int) : Int × Int := (modF x 30, modF (x.tdiv 30) 3)
theorem tdiv30 {x : Int} (h : -9223372036854775808 ≤ x ∧ x ≤ 9223372036854775807) : -9223372036854775808 ≤ x.tdiv 30 ∧ x.tdiv 30 ≤ 9223372036854775807 := by
  rcases Int.le_total 0 x with h0 | h0
  · rw [Int.tdiv_eq_ediv_of_nonneg h0]; omega
  · obtain ⟨y, rfl⟩ : ∃ y, x = -y := ⟨-x, by omega⟩
    rw [Int.neg_tdiv, Int.tdiv_eq_ediv_of_nonneg (by omega)]; omega
theorem ldF_rng {G : List Int} : (∀ p ∈ G.map ldF, 0 ≤ p.1 ∧ p.1 ≤ 29) ∧ ∀ p ∈ G.map ldF, 0 ≤ p.2 ∧ p.2 < 3 := by
  constructor <;> intro p hp <;> obtain ⟨x, _, rfl⟩ := List.mem_map.1 hp
  · have := modF_range x 30 (by decide); simp only [ldF]; omega
  · exact modF_range (x.tdiv 30) 3 (by decide)
theorem lx_snoc {G : List Int} {k : Nat} {g : Int} (hk : k < G.length) (hg : g = G.getD k default) : (((G.map ldF).take k).map loadC).flatten ++ [.int .i64 (modF g 30), .int .i64 (modF (g.tdiv 30) 3)] = (((G.map ldF).take (k + 1)).map loadC).flatten := by
  rw [take_snoc _ k (by simpa using hk), List.map_append, List.flatten_append]
  congr 1
  have : (G.map ldF).getD k default = ldF g := by rw [hg]; simp [hk]
  rw [this]
  rfl
theorem getD_take {l : List (Int × Int)} {k : Nat} (h : k < l.length) : (l.take (k + 1)).getD k default = l.getD k default := by simp [h]
theorem mul_small {a b : Int} (ha : 0 ≤ a ∧ a ≤ 1000) (hb : 0 ≤ b ∧ b ≤ 1000) : 0 ≤ a * b ∧ a * b ≤ 1000000 := by
  refine ⟨Int.mul_nonneg ha.1 hb.1, ?_⟩
  have h1 : a * b ≤ 1000 * b := Int.mul_le_mul_of_nonneg_right ha.2 hb.1
  omega

set_option maxHeartbeats 4000000 in
theorem fair_spec {D : Nat → TypeId → Prop} {vs : Value} {G : List Int} {n0 : Int} {w : World} (hs0 : Sg (gI .i64) D w vs G) (hGr : ∀ x ∈ G, -9223372036854775808 ≤ x ∧ x ≤ 9223372036854775807) :
    Calls Try.prog 4 #[vs, (.int .i64 (n0))] w fun e w' => ∃ v, e = .returned v ∧ v = .bool true ∧ Ext w w' := by
  have hE : Below w.heap.size w w := Below.refl _ _
  have hs := hs0.old
  clear hs0
  refine calls_of (n := 202) (rs := [.tmp 4]) Try.func4 rfl rfl rfl (Nat.le_of_ble_eq_true rfl) ?_
  refine wset fun F0 hF0 => ?_
  refine wseq ?_
  refine wregion ?_
  refine RL.val rfl rfl (by decide) (r_assign_as (v := (.bool (false))) rfl) ?_
  refine RL.nil ?_
  refine wseq ?_
  refine wseq ?_
  refine wregion ?_
  refine RL.val rfl rfl (by decide) (r_move_as (v := vs) (hF0 0)) ?_
  obtain ⟨A1, c2, hv3, hc4, hc5⟩ := hs.len
  refine RL.val rfl rfl (by decide) (r_len Try.underlying26 hv3) ?_
  refine RL.val rfl rfl (by decide) (r_gtr (k := .i64) (a := ((G.length : Nat) : Int)) (b := 32) rfl rfl) ?_
  refine RL.nil ?_
  refine wcond (b := decide (32 < ((G.length : Nat) : Int))) rfl (fun hb6 => ?_) (fun hb6 => ?_)
  · have hb6p := hb6
    replace hb6p := of_decide_eq_true hb6p
    refine wseq ?_
    refine wregion ?_
    refine RL.val rfl rfl (by decide) (r_assign_as (v := (.bool (true))) rfl) ?_
    refine RL.nil ?_
    refine wret ?_
    refine ⟨[(.bool (true))], ⟨rfl, trivial⟩, ?_⟩
    exact ⟨rfl, hE⟩
  · have hb6p := hb6
    replace hb6p := of_decide_eq_false hb6p
    refine wskip ?_
    refine wseq ?_
    refine wregion ?_
    refine RL.val rfl rfl (by decide) (r_assign_as (v := (.slice none (0) (0))) rfl) ?_
    refine RL.nil ?_
    refine wseq ?_
    refine wregion ?_
    refine RL.val rfl rfl (by decide) (r_assign_as (v := (.int .i64 (0))) rfl) ?_
    refine RL.nil ?_
    refine wseq ?_
    refine wseq ?_
    refine wregion ?_
    refine RL.val rfl rfl (by decide) (r_assign_as (v := (.int .i64 (0))) rfl) ?_
    refine RL.nil ?_
    refine wblock ?_
    refine wset fun F7 hF8 => ?_
    refine wloop (σ := Nat × Value) (fun (s : Nat × Value) fl wl => match s with | (k, v5) => Off [5, 6, 7, 22, 23, 24, 25, 26, 27, 28, 29, 30, 31, 32, 33, 34, 35, 36, 37, 38, 39, 40, 41, 42, 43, 44, 45, 46, 47, 48, 49] F7 fl ∧ fl 7 = (.int .i64 (((k : Nat) : Int))) ∧ fl 5 = v5 ∧ fl 6 = (.int .i64 (sumP ((G.map ldF).take k))) ∧ (k ≤ G.length) ∧ (0 ≤ sumP ((G.map ldF).take k) ∧ sumP ((G.map ldF).take k) ≤ k * 29) ∧ (Sg (gI .i64) (fun b T => D b T ∧ b < w.heap.size) wl vs G) ∧ (Ow wl w.heap.size 25 2 v5 k (((G.map ldF).take k).map loadC).flatten) ∧ (Below w.heap.size w wl) ∧ (w.heap.size ≤ wl.heap.size)) (fun (s : Nat × Value) => match s with | (k, v5) => G.length - k) (0, .slice none 0 0) ?_ ?_
    · exact ⟨Off.refl _ _, (hF8 7).trans (rfl), (hF8 5).trans (rfl), (hF8 6).trans ((int_eq (by simp [sumP]))), Nat.zero_le _, by simp [sumP], hs, (by simpa using Ow.nil _ _), hE, Nat.le_refl _⟩
    · clear hs hE
      rintro ⟨k, v5⟩ f10 w11 ⟨hoff12, hs13, hs14, hs15, hk, hsk, hs, how, hE, hz9⟩
      refine wseq ?_
      refine wseq ?_
      refine wregion ?_
      refine RL.val rfl rfl (by decide) (r_move_as (v := (.int .i64 (((k : Nat) : Int)))) hs13) ?_
      refine RL.val rfl rfl (by decide) (r_move_as (v := vs) ((hoff12 0 rfl).trans ((hF8 0).trans (hF0 0)))) ?_
      refine RL.val rfl rfl (by decide) (r_len Try.underlying26 hv3) ?_
      refine RL.val rfl rfl (by decide) (r_lss (k := .i64) (a := ((k : Nat) : Int)) (b := ((G.length : Nat) : Int)) rfl rfl) ?_
      refine RL.nil ?_
      refine wcond (b := decide (((k : Nat) : Int) < ((G.length : Nat) : Int))) rfl (fun hb16 => ?_) (fun hb16 => ?_)
      · have hb16p := hb16
        replace hb16p := of_decide_eq_true hb16p
        refine wskip ?_
        refine wseq ?_
        refine wblock ?_
        refine wseq ?_
        have hkl : k < G.length := by omega
        obtain ⟨g, hgk⟩ : ∃ g, g = G.getD k default := ⟨_, rfl⟩
        have hgr := hGr g (by rw [hgk]; exact getD_mem _ _ hkl)
        have hgt := tdiv30 hgr
        refine wdraw mixed fun w17 he18 => ?_
        have he18z := he18.size
        replace hs := hs.tr (Sm.ext he18)
        replace hE := Below.ext hE (by omega) he18
        replace how := how.ext he18
        refine RA.take 0 rfl (by kernel_rfl) rfl rfl (by decide) (fun _ => r_move_as (v := v5) hs14) ?_
        refine RA.take 1 rfl (by kernel_rfl) rfl rfl (by decide) (fun _ => r_move_as (v := vs) ((hoff12 0 rfl).trans ((hF8 0).trans (hF0 0)))) ?_
        refine RA.take 2 rfl (by kernel_rfl) rfl rfl (by decide) (fun _ => r_move_as (v := (.int .i64 (((k : Nat) : Int)))) hs13) ?_
        obtain ⟨b19, o20, c21, hv22, hc23⟩ := hs.ix (i := ((k : Nat) : Int)) (k) (by omega) (by omega)
        rw [show G.getD (k) default = g from hgk.symm] at hc23
        refine RA.take 3 rfl (by kernel_rfl) rfl rfl (by decide) (fun _ => r_indexAddr (i := ((k : Nat) : Int)) Try.underlying26 ty3 hv22 rfl (by omega) (by omega)) ?_
        refine RA.rd 4 rfl (by kernel_rfl) rfl rfl rfl (by decide) (Ext.refl _) (fun u hu => r_load (v := (.int .i64 (g))) Try.underlying3 ag3 rfl (cell_ext hu hc23)) ?_
        refine RA.take 6 rfl (by kernel_rfl) rfl rfl (by decide) (fun _ => r_move_as (v := vs) ((hoff12 0 rfl).trans ((hF8 0).trans (hF0 0)))) ?_
        refine RA.take 7 rfl (by kernel_rfl) rfl rfl (by decide) (fun _ => r_move_as (v := (.int .i64 (((k : Nat) : Int)))) hs13) ?_
        obtain ⟨b24, o25, c26, hv27, hc28⟩ := hs.ix (i := ((k : Nat) : Int)) (k) (by omega) (by omega)
        rw [show G.getD (k) default = g from hgk.symm] at hc28
        refine RA.take 8 rfl (by kernel_rfl) rfl rfl (by decide) (fun _ => r_indexAddr (i := ((k : Nat) : Int)) Try.underlying26 ty3 hv27 rfl (by omega) (by omega)) ?_
        refine RA.rd 9 rfl (by kernel_rfl) rfl rfl rfl (by decide) (Ext.refl _) (fun u hu => r_load (v := (.int .i64 (g))) Try.underlying3 ag3 rfl (cell_ext hu hc28)) ?_
        refine RA.take 10 rfl (by kernel_rfl) rfl rfl (by decide) (fun _ => r_quo (k := .i64) (a := g) (b := 30) (c := g.tdiv 30) rfl rfl (by decide) (wi64 (by omega))) ?_
        refine RA.all [5] (by kernel_rfl) rfl ?_
        refine RS.call rfl rfl rfl (by decide) (r_call (vl := [(.int .i64 (g)), (.int .i64 (30))]) ent5 rfl) (mod_spec _ (by omega) (by omega)) ?_ RS.nil
        rintro _ _ ⟨rfl, rfl⟩
        refine ⟨.inr (.inr (Ext.refl _)), RA.more (S' := fun u => Ext _ u) (fun u hu => Ext.trans (Ext.refl _) hu) ?_⟩
        refine RA.all [11] (by kernel_rfl) rfl ?_
        refine RS.call rfl rfl rfl (by decide) (r_call (vl := [(.int .i64 (g.tdiv 30)), (.int .i64 (3))]) ent5 rfl) (mod_spec _ (by omega) (by omega)) ?_ RS.nil
        rintro _ _ ⟨rfl, rfl⟩
        refine ⟨.inr (.inl (by kernel_rfl)), ?_⟩
        refine RA.take 12 rfl (by kernel_rfl) rfl rfl (by decide) (fun _ => r_build (vl := [(0, (.int .i64 (modF g 30))), (1, (.int .i64 (modF (g.tdiv 30) 3)))]) (cs := [(.int .i64 (modF g 30)), (.int .i64 (modF (g.tdiv 30) 3))]) Try.underlying25 ty25 rfl pl25 rfl) ?_
        refine RA.all [13] (by kernel_rfl) rfl ?_
        refine RS.run rfl rfl rfl (by decide) (h_lit (vl := [(0, (.agg #[(.int .i64 (modF g 30)), (.int .i64 (modF (g.tdiv 30) 3))]))]) (cs := [(.int .i64 (modF g 30)), (.int .i64 (modF (g.tdiv 30) 3))]) Try.underlying22 ty25 rfl (by decide) (by first | (simp [Instr.fill, Value.cells]; done) | rfl | kernel_rfl)) ?_ RS.nil
        rintro _ w31 ⟨b32, rfl, hs35, hb34, he33⟩
        refine ⟨.inr (.inl (by kernel_rfl)), ?_⟩
        have he33z := he33.size
        replace hs := hs.tr (Sm.ext he33)
        replace hE := Below.ext hE (by omega) he33
        replace how := how.ext he33
        have hb34l := hb34.lt
        refine RA.all [14] (by kernel_rfl) rfl ?_
        refine RS.run rfl rfl rfl (by decide) (h_append (v1 := v5) (v2 := (.slice (some ⟨b32, 0, none⟩) (1) (1))) (n := k) (m := 1) (l := (((G.map ldF).take k).map loadC).flatten) (news := [(.int .i64 (modF g 30)), (.int .i64 (modF (g.tdiv 30) 3))]) Try.underlying22 ty25 rfl (by decide) rfl rfl how (hb34.sc (D := fun _ _ => True) trivial rfl (by decide)) (one_cons rfl (one_cons rfl one_nil)) (by simp only [maxLen]; omega) (by omega) (by omega)) ?_ RS.nil
        rintro v37 w36 ⟨ho38, hg39⟩
        refine ⟨.inr (.inl (by kernel_rfl)), ?_⟩
        have hg39z := hg39.size
        replace hs := hs.tr (how.sm hg39 (by intro b hb hd; have := hd.2; omega))
        replace hE := how.below hg39 hE (by omega) (by omega)
        refine RA.take 15 rfl (by kernel_rfl) rfl rfl (by decide) (fun _ => r_assign_as (v := v37) rfl) ?_
        refine RA.done (by kernel_rfl) ?_
        rw [lx_snoc hkl hgk] at ho38
        have hss := Ow.ss (c := loadC) (xs := (G.map ldF).take (k + 1)) (D := fun _ _ => True) ho38 rfl (by simp; omega) (by decide) (fun _ _ => rfl) (fun _ _ => trivial)
        have hak : 0 ≤ (((G.map ldF).take (k + 1)).getD k default).1 ∧ (((G.map ldF).take (k + 1)).getD k default).1 ≤ 29 := ldF_rng.1 _ (List.mem_of_mem_take (getD_mem _ _ (by simp; omega)))
        refine wregion ?_
        refine RL.val rfl rfl (by decide) (r_move_as (v := (.int .i64 (sumP ((G.map ldF).take k)))) hs15) ?_
        refine RL.val rfl rfl (by decide) (r_move_as (v := v37) rfl) ?_
        refine RL.val rfl rfl (by decide) (r_move_as (v := (.int .i64 (((k : Nat) : Int)))) hs13) ?_
        obtain ⟨b40, o41, c42, hv43, hc44⟩ := hss.ix (i := ((k : Nat) : Int)) (k) (by (first | omega | (simp; omega))) (by (first | omega | (simp; omega)))
        refine RL.val rfl rfl (by decide) (r_indexAddr (i := ((k : Nat) : Int)) Try.underlying22 ty25 hv43 rfl (by (first | omega | (simp; omega))) (by (first | omega | (simp; omega)))) ?_
        refine RL.val rfl rfl (by decide) (r_fieldAddr Try.underlying25 rfl ty3 rfl) ?_
        refine RL.val rfl rfl (by decide) (r_load (v := (.int .i64 ((((G.map ldF).take (k + 1)).getD (k) default).1))) Try.underlying3 ag3 rfl (hc44 0 _ rfl)) ?_
        refine RL.val rfl rfl (by decide) (r_add (k := .i64) (a := sumP ((G.map ldF).take k)) (b := (((G.map ldF).take (k + 1)).getD (k) default).1) (c := (sumP ((G.map ldF).take k)) + ((((G.map ldF).take (k + 1)).getD (k) default).1)) rfl rfl (wi64 (by omega))) ?_
        refine RL.val rfl rfl (by decide) (r_assign_as (v := (.int .i64 ((sumP ((G.map ldF).take k)) + ((((G.map ldF).take (k + 1)).getD (k) default).1)))) rfl) ?_
        refine RL.nil ?_
        refine wregion ?_
        refine RL.val rfl rfl (by decide) (r_move_as (v := (.int .i64 (((k : Nat) : Int)))) hs13) ?_
        refine RL.val rfl rfl (by decide) (r_add (k := .i64) (a := ((k : Nat) : Int)) (b := 1) (c := ((k : Nat) : Int) + 1) rfl rfl (wi64 (by omega))) ?_
        refine RL.val rfl rfl (by decide) (r_assign_as (v := (.int .i64 (((k : Nat) : Int) + 1))) rfl) ?_
        refine RL.nil ?_
        refine ⟨(k + 1, v37), ⟨?_, ?_, ?_, ?_, ?_, ?_, ?_, ?_, ?_, ?_⟩, ?_⟩
        · exact (by repeat (first | exact hoff12 | refine Off.st ?_ (by decide) _))
        · first | rfl | exact int_eq (by omega) | exact bool_eq (by simp)
        · first | rfl | exact int_eq (by omega) | exact bool_eq (by simp)
        · exact int_eq (by rw [getD_take (by simp; omega), take_snoc (G.map ldF) k (by simp; omega), sumP_snoc])
        · omega
        · rw [take_snoc (G.map ldF) k (by simp; omega), sumP_snoc, ← getD_take (by simp; omega)]; omega
        · exact hs
        · exact ho38
        · exact hE
        · omega
        · (try dsimp only)
          omega
      · have hb16p := hb16
        replace hb16p := of_decide_eq_false hb16p
        refine wexit ?_
        refine wseq ?_
        have hkG : k = G.length := by omega
        have hl := Ow.ss (c := loadC) (xs := (G.map ldF)) (D := fun b _ => w.heap.size ≤ b) how (by rw [List.take_of_length_le (by simp; omega)]) (by simp; omega) (by decide) (fun _ _ => rfl) (fun _ h => h)
        obtain ⟨hr1, hr2⟩ := ldF_rng (G := G)
        obtain ⟨ls, hlse⟩ : ∃ l, l = (G.map ldF) := ⟨_, rfl⟩
        have hsl : sumP ((G.map ldF).take k) = sumP ls := by rw [hlse, List.take_of_length_le (by simp; omega)]
        rw [← hlse] at hl hr1 hr2
        have hlsl : ls.length = G.length := by rw [hlse]; simp
        refine wregion ?_
        refine RL.val rfl rfl (by decide) (r_move_as (v := (.int .i64 (n0))) ((hoff12 1 rfl).trans ((hF8 1).trans (hF0 1)))) ?_
        refine RL.val rfl rfl (by decide) (r_move_as (v := (.int .i64 (sumP ((G.map ldF).take k)))) hs15) ?_
        refine RL.val rfl rfl (by decide) (r_add (k := .i64) (a := sumP ((G.map ldF).take k)) (b := 1) (c := (sumP ((G.map ldF).take k)) + 1) rfl rfl (wi64 (by omega))) ?_
        refine RL.call rfl rfl (by decide) (r_call (vl := [(.int .i64 (n0)), (.int .i64 ((sumP ((G.map ldF).take k)) + 1))]) ent5 rfl) (mod_spec _ (by omega) (by omega)) ?_
        rintro _ _ ⟨rfl, rfl⟩
        obtain ⟨need, hneed⟩ : ∃ n, n = modF n0 (sumP ((G.map ldF).take k) + 1) := ⟨_, rfl⟩
        have hnb := modF_range n0 (sumP ((G.map ldF).take k) + 1) (by omega)
        rw [← hneed] at hnb
        replace hnb : 0 ≤ need ∧ need ≤ sumP ls := by omega
        refine RL.val rfl rfl (by decide) (r_assign_as (v := .int .i64 need) (int_eq hneed.symm)) ?_
        refine RL.nil ?_
        refine wseq ?_
        refine wregion ?_
        refine RL.val rfl rfl (by decide) (r_move_as (v := v5) hs14) ?_
        refine RL.val rfl rfl (by decide) (r_move_as (v := (.int .i64 (need))) rfl) ?_
        refine RL.call rfl rfl (by decide) (r_call (vl := [v5, (.int .i64 (need))]) ent6 rfl) (curtail_spec (need := need) hl) ?_
        rintro vq48 w46 ⟨hq49, he47⟩
        have he47z := he47.size
        replace hs := hs.tr (Sm.ext he47)
        replace hE := Below.ext hE (by omega) he47
        replace hl := hl.tr (Sm.ext he47)
        obtain ⟨-, vr50, rfl, hcu51⟩ := hq49.resolve_left (fun h => h.1 (by unfold curtE; rw [if_neg (by omega), if_pos (fun p hp => by have := hr1 p hp; omega), if_neg (by omega)]))
        refine RL.val rfl rfl (by decide) (r_move_as (v := (.tuple #[vr50, (.int .i64 (0))])) rfl) ?_
        refine RL.val rfl rfl (by decide) (r_extract (v := vr50) rfl rfl) ?_
        refine RL.val rfl rfl (by decide) (r_extract (v := (.int .i64 (0))) rfl rfl) ?_
        refine RL.val rfl rfl (by decide) (r_assign_as (v := vr50) rfl) ?_
        refine RL.val rfl rfl (by decide) (r_assign_as (v := (.int .i64 (0))) rfl) ?_
        refine RL.nil ?_
        refine wseq ?_
        refine wseq ?_
        have hcl := length_curtF ls need
        refine wregion ?_
        refine RL.call rfl rfl (by decide) (r_call (vl := []) ent8 rfl) (awake_spec) ?_
        rintro _ w52 ⟨rfl, he53⟩
        have he53z := he53.size
        replace hs := hs.tr (Sm.ext he53)
        replace hE := Below.ext hE (by omega) he53
        replace hl := hl.tr (Sm.ext he53)
        replace hcu51 := hcu51.tr (Sm.ext he53)
        refine RL.val rfl rfl (by decide) (r_not rfl) ?_
        refine RL.val rfl rfl (by decide) (r_move_as (v := (.bool (false))) rfl) ?_
        refine RL.gval rfl rfl rfl rfl (by decide) (r_move_as (v := (.int .i64 (0))) rfl) ?_
        refine RL.gval rfl rfl rfl rfl (by decide) (r_neq (k := .i64) (a := 0) (b := 0) rfl rfl) ?_
        refine RL.val rfl rfl (by decide) (r_pick_f (v := (.bool (false))) rfl rfl) ?_
        refine RL.val rfl rfl (by decide) (r_move_as (v := (.bool (false))) rfl) ?_
        refine RL.gval rfl rfl rfl rfl (by decide) (r_move_as (v := vr50) rfl) ?_
        obtain ⟨A54, c55, hv56, hc57, hc58⟩ := hcu51.len
        refine RL.gval rfl rfl rfl rfl (by decide) (r_len Try.underlying26 hv56) ?_
        refine RL.gval rfl rfl rfl rfl (by decide) (r_move_as (v := v5) hs14) ?_
        obtain ⟨A59, c60, hv61, hc62, hc63⟩ := hl.len
        refine RL.gval rfl rfl rfl rfl (by decide) (r_len Try.underlying22 hv61) ?_
        refine RL.gval rfl rfl rfl rfl (by decide) (r_neq (k := .i64) (a := (((curtF ls need).length : Nat) : Int)) (b := ((ls.length : Nat) : Int)) rfl rfl) ?_
        refine RL.val rfl rfl (by decide) (r_pick_f (v := (.bool (decide ((((curtF ls need).length : Nat) : Int) ≠ ((ls.length : Nat) : Int))))) rfl rfl) ?_
        refine RL.nil ?_
        refine wcond (b := decide ((((curtF ls need).length : Nat) : Int) ≠ ((ls.length : Nat) : Int))) rfl (fun hb64 => ?_) (fun hb64 => ?_)
        · have hb64p := hb64
          replace hb64p := of_decide_eq_true hb64p
          omega
        · have hb64p := hb64
          replace hb64p := of_decide_eq_false hb64p
          refine wskip ?_
          refine wseq ?_
          refine wregion ?_
          refine RL.val rfl rfl (by decide) (r_assign_as (v := (.int .i64 (0))) rfl) ?_
          refine RL.nil ?_
          refine wseq ?_
          obtain ⟨z0, hz0⟩ : ∃ z, z = w52.heap.size := ⟨_, rfl⟩
          replace hl := hl.old.mono (D' := fun b _ => b < z0) (fun b T h => by rw [hz0]; exact h.2)
          have hcu := hcu51.old.mono (D' := fun b _ => b < z0) (fun b T h => by rw [hz0]; exact h.2)
          obtain ⟨hF1, hF2, hF3, hF4⟩ := fair_main hr1 hr2 (by omega) hnb.1 hnb.2
          have hmi : ∀ i : Nat, i < ls.length → 0 ≤ (ls.getD i default).2 ∧ (ls.getD i default).2 < 3 := fun i hi => hr2 _ (getD_mem _ _ hi)
          have hai : ∀ i : Nat, i < ls.length → 0 ≤ (ls.getD i default).1 ∧ (ls.getD i default).1 ≤ 29 := fun i hi => hr1 _ (getD_mem _ _ hi)
          have hci : ∀ i : Int, 0 ≤ i → i < (ls.length : Int) → 0 ≤ cutF ls need i ∧ cutF ls need i ≤ 29 := fun i h0 h1 => by have h2 := hF1 i h0 h1; have h3 := hai i.toNat (by omega); exact ⟨h2.1, Int.le_trans h2.2 h3.2⟩
          have hai2 : ∀ i : Int, 0 ≤ i → i < (ls.length : Int) → 0 ≤ am ls i ∧ am ls i ≤ 29 := fun i h0 h1 => hai i.toNat (by omega)
          refine wregion ?_
          refine RL.run rfl rfl (by decide) (h_alloc (cs := [(.int .i64 0), (.int .i64 0), (.int .i64 0)]) ty33 rfl) ?_
          rintro _ w65 ⟨b66, rfl, hs69, hb68, he67⟩
          have he67z := he67.size
          replace hs := hs.tr (Sm.ext he67)
          replace hE := Below.ext hE (by omega) he67
          replace hl := hl.tr (Sm.ext he67)
          replace hcu := hcu.tr (Sm.ext he67)
          have hb68l := hb68.lt
          refine RL.run rfl rfl (by decide) (h_alloc (cs := [(.int .i64 0), (.int .i64 0), (.int .i64 0)]) ty33 rfl) ?_
          rintro _ w70 ⟨b71, rfl, hs74, hb73, he72⟩
          have he72z := he72.size
          replace hs := hs.tr (Sm.ext he72)
          replace hE := Below.ext hE (by omega) he72
          replace hl := hl.tr (Sm.ext he72)
          replace hcu := hcu.tr (Sm.ext he72)
          replace hb68 := hb68.ext he72
          have hb73l := hb73.lt
          refine RL.nil ?_
          refine wseq ?_
          refine wseq ?_
          replace hb68 := hb68.ar (g := gI .i64) (xs := vec3 (cutF ls need) (me ls) 0) rfl rfl
          replace hb73 := hb73.ar (g := gI .i64) (xs := vec3 (am ls) (me ls) 0) rfl rfl
          refine wregion ?_
          refine RL.val rfl rfl (by decide) (r_assign_as (v := (.int .i64 (0))) rfl) ?_
          refine RL.nil ?_
          refine wblock ?_
          refine wset fun F75 hF76 => ?_
          refine wloop (σ := Nat) (fun (i : Nat) fl wl => Off [4, 10, 13, 73, 74, 75, 76, 77, 78, 79, 80, 81, 82, 83, 84, 85, 86, 87, 88, 89, 90, 91, 92, 93, 94, 95, 96, 97, 98, 99, 100, 101, 102, 103, 104, 105, 106, 107, 108, 109, 110, 111, 112, 113, 114, 115, 116, 117, 118, 119, 120, 121, 122, 123, 124, 125, 126, 127, 128] F75 fl ∧ fl 13 = (.int .i64 (((i : Nat) : Int))) ∧ fl 10 = (.int .i64 (sumC (cutF ls need) i)) ∧ (i ≤ ls.length) ∧ (0 ≤ sumC (cutF ls need) i ∧ sumC (cutF ls need) i ≤ i * 29) ∧ (Ss loadC 2 (fun b _ => b < z0) wl v5 ls) ∧ (Sg (gI .i64) (fun b _ => b < z0) wl vr50 (curtF ls need)) ∧ (Ar (gI .i64) wl b66 33 0 (vec3 (cutF ls need) (me ls) i) 3) ∧ (Ar (gI .i64) wl b71 33 0 (vec3 (am ls) (me ls) i) 3) ∧ (Below w.heap.size w wl) ∧ (w70.heap.size ≤ wl.heap.size)) (fun (i : Nat) => ls.length - i) (0) ?_ ?_
          · exact ⟨Off.refl _ _, (hF76 13).trans (rfl), (hF76 10).trans (rfl), Nat.zero_le _, ⟨Int.le_refl _, Int.le_refl _⟩, hl, hcu, hb68, hb73, hE, Nat.le_refl _⟩
          · clear hs hE hl hcu hb68 hb73
            rintro i f78 w79 ⟨hoff80, hs81, hs82, hi, hsc, hl, hcu, hb68, hb73, hE, hz77⟩
            refine wseq ?_
            refine wseq ?_
            refine wregion ?_
            refine RL.val rfl rfl (by decide) (r_move_as (v := (.int .i64 (((i : Nat) : Int)))) hs81) ?_
            refine RL.val rfl rfl (by decide) (r_move_as (v := vr50) ((hoff80 8 rfl).trans (hF76 8))) ?_
            refine RL.val rfl rfl (by decide) (r_len Try.underlying26 hv56) ?_
            refine RL.val rfl rfl (by decide) (r_lss (k := .i64) (a := ((i : Nat) : Int)) (b := (((curtF ls need).length : Nat) : Int)) rfl rfl) ?_
            refine RL.nil ?_
            refine wcond (b := decide (((i : Nat) : Int) < (((curtF ls need).length : Nat) : Int))) rfl (fun hb83 => ?_) (fun hb83 => ?_)
            · have hb83p := hb83
              replace hb83p := of_decide_eq_true hb83p
              refine wskip ?_
              refine wseq ?_
              refine wblock ?_
              refine wseq ?_
              refine wseq ?_
              have hil : i < ls.length := by omega
              obtain ⟨c, hck⟩ : ∃ c, c = cutF ls need (i : Nat) := ⟨_, rfl⟩
              have hcc : (curtF ls need).getD i default = c := by rw [hck]; exact curtF_at hil
              have hcb := hF1 (i : Nat) (by omega) (by omega)
              rw [← hck] at hcb
              obtain ⟨m, hmk⟩ : ∃ m, m = me ls (i : Nat) := ⟨_, rfl⟩
              have hm2 : (ls.getD i default).2 = m := hmk.symm
              have hmb := hmi i hil
              rw [hm2] at hmb
              obtain ⟨a, ha2⟩ : ∃ a, a = (ls.getD i default).1 := ⟨_, rfl⟩
              have hak2 : (ls.getD i default).1 = am ls (i : Nat) := rfl
              have hab := hai i hil
              replace hcb : 0 ≤ c ∧ c ≤ (ls.getD i default).1 := hcb
              have hsb1 := sm_bd (f := cutF ls need) (g := me ls) (m := m) (B := 29) (k := i) (by decide) (fun x h0 h1 => hci x h0 (by omega))
              have hsb2 := sm_bd (f := am ls) (g := me ls) (m := m) (B := 29) (k := i) (by decide) (fun x h0 h1 => hai2 x h0 (by omega))
              refine wdraw mixed fun w84 he85 => ?_
              have he85z := he85.size
              replace hE := Below.ext hE (by omega) he85
              replace hl := hl.tr (Sm.ext he85)
              replace hcu := hcu.tr (Sm.ext he85)
              replace hb68 := hb68.ext he85
              replace hb73 := hb73.ext he85
              refine RA.take 0 rfl (by kernel_rfl) rfl rfl (by decide) (fun _ => r_move_as (v := vr50) ((hoff80 8 rfl).trans (hF76 8))) ?_
              refine RA.take 1 rfl (by kernel_rfl) rfl rfl (by decide) (fun _ => r_move_as (v := (.int .i64 (((i : Nat) : Int)))) hs81) ?_
              obtain ⟨b86, o87, c88, hv89, hc90⟩ := hcu.ix (i := ((i : Nat) : Int)) (i) (by omega) (by omega)
              rw [show (curtF ls need).getD (i) default = c from hcc] at hc90
              refine RA.take 2 rfl (by kernel_rfl) rfl rfl (by decide) (fun _ => r_indexAddr (i := ((i : Nat) : Int)) Try.underlying26 ty3 hv89 rfl (by omega) (by omega)) ?_
              refine RA.rd 3 rfl (by kernel_rfl) rfl rfl rfl (by decide) (Ext.refl _) (fun u hu => r_load (v := (.int .i64 (c))) Try.underlying3 ag3 rfl (cell_ext hu hc90)) ?_
              refine RA.take 4 rfl (by kernel_rfl) rfl rfl (by decide) (fun _ => r_lss (k := .i64) (a := c) (b := 0) rfl rfl) ?_
              refine RA.take 5 rfl (by kernel_rfl) rfl rfl (by decide) (fun _ => r_move_as (v := (.bool (decide (c < 0)))) rfl) ?_
              rcases Bool.eq_false_or_eq_true (decide (c < 0)) with hb91 | hb91
              · have hb91p := hb91
                replace hb91p := of_decide_eq_true hb91p
                omega
              · have hb91p := hb91
                replace hb91p := of_decide_eq_false hb91p
                refine RA.gtake 6 rfl (by kernel_rfl) rfl rfl (bool_eq hb91) rfl (by decide) (fun _ => r_move_as (v := vr50) ((hoff80 8 rfl).trans (hF76 8))) ?_
                refine RA.gtake 7 rfl (by kernel_rfl) rfl rfl (bool_eq hb91) rfl (by decide) (fun _ => r_move_as (v := (.int .i64 (((i : Nat) : Int)))) hs81) ?_
                obtain ⟨b92, o93, c94, hv95, hc96⟩ := hcu.ix (i := ((i : Nat) : Int)) (i) (by omega) (by omega)
                rw [show (curtF ls need).getD (i) default = c from hcc] at hc96
                refine RA.gtake 8 rfl (by kernel_rfl) rfl rfl (bool_eq hb91) rfl (by decide) (fun _ => r_indexAddr (i := ((i : Nat) : Int)) Try.underlying26 ty3 hv95 rfl (by omega) (by omega)) ?_
                refine RA.grd 9 rfl (by kernel_rfl) rfl rfl rfl (bool_eq hb91) rfl (by decide) (Ext.refl _) (fun u hu => r_load (v := (.int .i64 (c))) Try.underlying3 ag3 rfl (cell_ext hu hc96)) ?_
                refine RA.gtake 10 rfl (by kernel_rfl) rfl rfl (bool_eq hb91) rfl (by decide) (fun _ => r_move_as (v := v5) ((hoff80 5 rfl).trans ((hF76 5).trans hs14))) ?_
                refine RA.gtake 11 rfl (by kernel_rfl) rfl rfl (bool_eq hb91) rfl (by decide) (fun _ => r_move_as (v := (.int .i64 (((i : Nat) : Int)))) hs81) ?_
                obtain ⟨b97, o98, c99, hv100, hc101⟩ := hl.ix (i := ((i : Nat) : Int)) (i) (by omega) (by omega)
                refine RA.gtake 12 rfl (by kernel_rfl) rfl rfl (bool_eq hb91) rfl (by decide) (fun _ => r_indexAddr (i := ((i : Nat) : Int)) Try.underlying22 ty25 hv100 rfl (by omega) (by omega)) ?_
                refine RA.gtake 13 rfl (by kernel_rfl) rfl rfl (bool_eq hb91) rfl (by decide) (fun _ => r_fieldAddr Try.underlying25 rfl ty3 rfl) ?_
                refine RA.grd 14 rfl (by kernel_rfl) rfl rfl rfl (bool_eq hb91) rfl (by decide) (Ext.refl _) (fun u hu => r_load (v := (.int .i64 ((ls.getD (i) default).1))) Try.underlying3 ag3 rfl (cell_ext hu (hc101 0 _ rfl))) ?_
                refine RA.gtake 15 rfl (by kernel_rfl) rfl rfl (bool_eq hb91) rfl (by decide) (fun _ => r_gtr (k := .i64) (a := c) (b := (ls.getD (i) default).1) rfl rfl) ?_
                refine RA.take 16 rfl (by kernel_rfl) rfl rfl (by decide) (fun _ => r_pick_f (v := (.bool (decide (((ls.getD (i) default).1) < c)))) (bool_eq hb91) rfl) ?_
                refine RA.done (by kernel_rfl) ?_
                refine wcond (b := decide (((ls.getD (i) default).1) < c)) rfl (fun hb102 => ?_) (fun hb102 => ?_)
                · have hb102p := hb102
                  replace hb102p := of_decide_eq_true hb102p
                  omega
                · have hb102p := hb102
                  replace hb102p := of_decide_eq_false hb102p
                  refine wskip ?_
                  refine wseq ?_
                  refine wregion ?_
                  refine RL.val rfl rfl (by decide) (r_move_as (v := (.int .i64 (sumC (cutF ls need) i))) hs82) ?_
                  refine RL.val rfl rfl (by decide) (r_move_as (v := vr50) ((hoff80 8 rfl).trans (hF76 8))) ?_
                  refine RL.val rfl rfl (by decide) (r_move_as (v := (.int .i64 (((i : Nat) : Int)))) hs81) ?_
                  obtain ⟨b103, o104, c105, hv106, hc107⟩ := hcu.ix (i := ((i : Nat) : Int)) (i) (by omega) (by omega)
                  rw [show (curtF ls need).getD (i) default = c from hcc] at hc107
                  refine RL.val rfl rfl (by decide) (r_indexAddr (i := ((i : Nat) : Int)) Try.underlying26 ty3 hv106 rfl (by omega) (by omega)) ?_
                  refine RL.val rfl rfl (by decide) (r_load (v := (.int .i64 (c))) Try.underlying3 ag3 rfl hc107) ?_
                  refine RL.val rfl rfl (by decide) (r_add (k := .i64) (a := sumC (cutF ls need) i) (b := c) (c := (sumC (cutF ls need) i) + c) rfl rfl (wi64 (by omega))) ?_
                  refine RL.val rfl rfl (by decide) (r_assign_as (v := (.int .i64 ((sumC (cutF ls need) i) + c))) rfl) ?_
                  refine RL.nil ?_
                  refine wseq ?_
                  refine wdraw mixed fun w108 he109 => ?_
                  have he109z := he109.size
                  replace hE := Below.ext hE (by omega) he109
                  replace hl := hl.tr (Sm.ext he109)
                  replace hcu := hcu.tr (Sm.ext he109)
                  replace hb68 := hb68.ext he109
                  replace hb73 := hb73.ext he109
                  refine RA.take 0 rfl (by kernel_rfl) rfl rfl (by decide) (fun _ => r_move_as (v := v5) ((hoff80 5 rfl).trans ((hF76 5).trans hs14))) ?_
                  refine RA.take 1 rfl (by kernel_rfl) rfl rfl (by decide) (fun _ => r_move_as (v := (.int .i64 (((i : Nat) : Int)))) hs81) ?_
                  obtain ⟨b110, o111, c112, hv113, hc114⟩ := hl.ix (i := ((i : Nat) : Int)) (i) (by omega) (by omega)
                  refine RA.take 2 rfl (by kernel_rfl) rfl rfl (by decide) (fun _ => r_indexAddr (i := ((i : Nat) : Int)) Try.underlying22 ty25 hv113 rfl (by omega) (by omega)) ?_
                  refine RA.take 3 rfl (by kernel_rfl) rfl rfl (by decide) (fun _ => r_fieldAddr Try.underlying25 rfl ty3 rfl) ?_
                  refine RA.rd 4 rfl (by kernel_rfl) rfl rfl rfl (by decide) (Ext.refl _) (fun u hu => r_load (v := (.int .i64 ((ls.getD (i) default).2))) Try.underlying3 ag3 rfl (cell_ext hu (hc114 1 _ rfl))) ?_
                  refine RA.take 5 rfl (by kernel_rfl) rfl rfl (by decide) (fun _ => r_indexArr (i := (ls.getD (i) default).2) Try.underlying33 ty3 ((hoff80 11 rfl).trans (hF76 11)) rfl (by omega) (by omega)) ?_
                  have hc115 := hb68.cell (i := (ls.getD (i) default).2) (m.toNat) (by omega) (by omega)
                  rw [show (vec3 (cutF ls need) (me ls) i).getD (m.toNat) default = sm (cutF ls need) (me ls) m i from (vec3_at _ _ _ hmb.1 hmb.2)] at hc115
                  refine RA.rd 6 rfl (by kernel_rfl) rfl rfl rfl (by decide) (Ext.refl _) (fun u hu => r_load (v := (.int .i64 (sm (cutF ls need) (me ls) m i))) Try.underlying3 ag3 rfl (cell_ext hu hc115)) ?_
                  refine RA.take 7 rfl (by kernel_rfl) rfl rfl (by decide) (fun _ => r_move_as (v := vr50) ((hoff80 8 rfl).trans (hF76 8))) ?_
                  refine RA.take 8 rfl (by kernel_rfl) rfl rfl (by decide) (fun _ => r_move_as (v := (.int .i64 (((i : Nat) : Int)))) hs81) ?_
                  obtain ⟨b116, o117, c118, hv119, hc120⟩ := hcu.ix (i := ((i : Nat) : Int)) (i) (by omega) (by omega)
                  rw [show (curtF ls need).getD (i) default = c from hcc] at hc120
                  refine RA.take 9 rfl (by kernel_rfl) rfl rfl (by decide) (fun _ => r_indexAddr (i := ((i : Nat) : Int)) Try.underlying26 ty3 hv119 rfl (by omega) (by omega)) ?_
                  refine RA.rd 10 rfl (by kernel_rfl) rfl rfl rfl (by decide) (Ext.refl _) (fun u hu => r_load (v := (.int .i64 (c))) Try.underlying3 ag3 rfl (cell_ext hu hc120)) ?_
                  refine RA.take 11 rfl (by kernel_rfl) rfl rfl (by decide) (fun _ => r_add (k := .i64) (a := sm (cutF ls need) (me ls) m i) (b := c) (c := (sm (cutF ls need) (me ls) m i) + c) rfl rfl (wi64 (by omega))) ?_
                  refine RA.take 12 rfl (by kernel_rfl) rfl rfl (by decide) (fun _ => r_indexArr (i := (ls.getD (i) default).2) Try.underlying33 ty3 ((hoff80 11 rfl).trans (hF76 11)) rfl (by omega) (by omega)) ?_
                  refine RA.all [13] (by kernel_rfl) rfl ?_
                  refine RS.runs rfl rfl rfl (h_set (g := (gI .i64)) (vv := (.int .i64 ((sm (cutF ls need) (me ls) m i) + c))) (u := (sm (cutF ls need) (me ls) m i) + c) (i := (ls.getD (i) default).2) ty3 rfl rfl rfl rfl rfl hb68 (m.toNat) (by omega) (by omega)) ?_ RS.nil
                  rintro w121 ⟨ha122, hx123⟩
                  refine ⟨.inr (.inl (by kernel_rfl)), ?_⟩
                  have hx123z := hx123.size
                  replace hE := Below.exc hE (by omega) hx123 (by omega)
                  replace hl := hl.tr (hb68.sm hx123 (by (intro h; have h2 : _ < _ := h; omega)))
                  replace hcu := hcu.tr (hb68.sm hx123 (by (intro h; have h2 : _ < _ := h; omega)))
                  replace hb73 := hb73.exc hx123 (by omega)
                  replace hb68 := ha122
                  refine RA.done (by kernel_rfl) ?_
                  refine wdraw mixed fun w124 he125 => ?_
                  have he125z := he125.size
                  replace hE := Below.ext hE (by omega) he125
                  replace hl := hl.tr (Sm.ext he125)
                  replace hcu := hcu.tr (Sm.ext he125)
                  replace hb68 := hb68.ext he125
                  replace hb73 := hb73.ext he125
                  refine RA.take 0 rfl (by kernel_rfl) rfl rfl (by decide) (fun _ => r_move_as (v := v5) ((hoff80 5 rfl).trans ((hF76 5).trans hs14))) ?_
                  refine RA.take 1 rfl (by kernel_rfl) rfl rfl (by decide) (fun _ => r_move_as (v := (.int .i64 (((i : Nat) : Int)))) hs81) ?_
                  obtain ⟨b126, o127, c128, hv129, hc130⟩ := hl.ix (i := ((i : Nat) : Int)) (i) (by omega) (by omega)
                  refine RA.take 2 rfl (by kernel_rfl) rfl rfl (by decide) (fun _ => r_indexAddr (i := ((i : Nat) : Int)) Try.underlying22 ty25 hv129 rfl (by omega) (by omega)) ?_
                  refine RA.take 3 rfl (by kernel_rfl) rfl rfl (by decide) (fun _ => r_fieldAddr Try.underlying25 rfl ty3 rfl) ?_
                  refine RA.rd 4 rfl (by kernel_rfl) rfl rfl rfl (by decide) (Ext.refl _) (fun u hu => r_load (v := (.int .i64 ((ls.getD (i) default).2))) Try.underlying3 ag3 rfl (cell_ext hu (hc130 1 _ rfl))) ?_
                  refine RA.take 5 rfl (by kernel_rfl) rfl rfl (by decide) (fun _ => r_indexArr (i := (ls.getD (i) default).2) Try.underlying33 ty3 ((hoff80 12 rfl).trans (hF76 12)) rfl (by omega) (by omega)) ?_
                  have hc131 := hb73.cell (i := (ls.getD (i) default).2) (m.toNat) (by omega) (by omega)
                  rw [show (vec3 (am ls) (me ls) i).getD (m.toNat) default = sm (am ls) (me ls) m i from (vec3_at _ _ _ hmb.1 hmb.2)] at hc131
                  refine RA.rd 6 rfl (by kernel_rfl) rfl rfl rfl (by decide) (Ext.refl _) (fun u hu => r_load (v := (.int .i64 (sm (am ls) (me ls) m i))) Try.underlying3 ag3 rfl (cell_ext hu hc131)) ?_
                  refine RA.take 7 rfl (by kernel_rfl) rfl rfl (by decide) (fun _ => r_move_as (v := v5) ((hoff80 5 rfl).trans ((hF76 5).trans hs14))) ?_
                  refine RA.take 8 rfl (by kernel_rfl) rfl rfl (by decide) (fun _ => r_move_as (v := (.int .i64 (((i : Nat) : Int)))) hs81) ?_
                  obtain ⟨b132, o133, c134, hv135, hc136⟩ := hl.ix (i := ((i : Nat) : Int)) (i) (by omega) (by omega)
                  refine RA.take 9 rfl (by kernel_rfl) rfl rfl (by decide) (fun _ => r_indexAddr (i := ((i : Nat) : Int)) Try.underlying22 ty25 hv135 rfl (by omega) (by omega)) ?_
                  refine RA.take 10 rfl (by kernel_rfl) rfl rfl (by decide) (fun _ => r_fieldAddr Try.underlying25 rfl ty3 rfl) ?_
                  refine RA.rd 11 rfl (by kernel_rfl) rfl rfl rfl (by decide) (Ext.refl _) (fun u hu => r_load (v := (.int .i64 ((ls.getD (i) default).1))) Try.underlying3 ag3 rfl (cell_ext hu (hc136 0 _ rfl))) ?_
                  refine RA.take 12 rfl (by kernel_rfl) rfl rfl (by decide) (fun _ => r_add (k := .i64) (a := sm (am ls) (me ls) m i) (b := (ls.getD (i) default).1) (c := (sm (am ls) (me ls) m i) + ((ls.getD (i) default).1)) rfl rfl (wi64 (by omega))) ?_
                  refine RA.take 13 rfl (by kernel_rfl) rfl rfl (by decide) (fun _ => r_indexArr (i := (ls.getD (i) default).2) Try.underlying33 ty3 ((hoff80 12 rfl).trans (hF76 12)) rfl (by omega) (by omega)) ?_
                  refine RA.all [14] (by kernel_rfl) rfl ?_
                  refine RS.runs rfl rfl rfl (h_set (g := (gI .i64)) (vv := (.int .i64 ((sm (am ls) (me ls) m i) + ((ls.getD (i) default).1)))) (u := (sm (am ls) (me ls) m i) + ((ls.getD (i) default).1)) (i := (ls.getD (i) default).2) ty3 rfl rfl rfl rfl rfl hb73 (m.toNat) (by omega) (by omega)) ?_ RS.nil
                  rintro w137 ⟨ha138, hx139⟩
                  refine ⟨.inr (.inl (by kernel_rfl)), ?_⟩
                  have hx139z := hx139.size
                  replace hE := Below.exc hE (by omega) hx139 (by omega)
                  replace hl := hl.tr (hb73.sm hx139 (by (intro h; have h2 : _ < _ := h; omega)))
                  replace hcu := hcu.tr (hb73.sm hx139 (by (intro h; have h2 : _ < _ := h; omega)))
                  replace hb68 := hb68.exc hx139 (by omega)
                  replace hb73 := ha138
                  refine RA.done (by kernel_rfl) ?_
                  refine wregion ?_
                  refine RL.val rfl rfl (by decide) (r_move_as (v := (.int .i64 (((i : Nat) : Int)))) hs81) ?_
                  refine RL.val rfl rfl (by decide) (r_add (k := .i64) (a := ((i : Nat) : Int)) (b := 1) (c := ((i : Nat) : Int) + 1) rfl rfl (wi64 (by omega))) ?_
                  refine RL.val rfl rfl (by decide) (r_assign_as (v := (.int .i64 (((i : Nat) : Int) + 1))) rfl) ?_
                  refine RL.nil ?_
                  refine ⟨(i + 1), ⟨?_, ?_, ?_, ?_, ?_, ?_, ?_, ?_, ?_, ?_, ?_⟩, ?_⟩
                  · exact (by repeat (first | exact hoff80 | refine Off.st ?_ (by decide) _ | refine Off.via hoff12 (by decide) ?_ | refine Off.eq hF8 ?_))
                  · first | rfl | exact int_eq (by omega) | exact bool_eq (by simp)
                  · exact int_eq (by rw [sumC_succ, ← hck])
                  · omega
                  · rw [sumC_succ, ← hck]; omega
                  · exact hl
                  · exact hcu
                  · rw [vec3_set _ _ _ (m := m) hmk.symm hmb.1 hmb.2 (by rw [hck])] at hb68; exact hb68
                  · rw [vec3_set (am ls) _ _ (m := m) (x := sm (am ls) (me ls) m i + (ls.getD i default).1) hmk.symm hmb.1 hmb.2 rfl] at hb73; exact hb73
                  · exact hE
                  · omega
                  · (try dsimp only)
                    omega
            · have hb83p := hb83
              replace hb83p := of_decide_eq_false hb83p
              refine wexit ?_
              refine wseq ?_
              refine wseq ?_
              have hkn : i = ls.length := by omega
              rw [hkn] at hb68 hb73
              refine wregion ?_
              refine RL.val rfl rfl (by decide) (r_assign_as (v := (.int .i64 (1))) rfl) ?_
              refine RL.nil ?_
              refine wblock ?_
              refine wset fun F140 hF141 => ?_
              refine wloop (σ := Nat) (fun (uu : Nat) fl wl => Off [4, 14, 15, 129, 130, 131, 132, 133, 134, 135, 136, 137, 138, 139, 140, 141, 142, 143, 144, 145, 146, 147, 148, 149, 150] F140 fl ∧ fl 14 = (.int .i64 (((uu : Nat) : Int))) ∧ (1 ≤ uu ∧ uu ≤ 3) ∧ (Ss loadC 2 (fun b _ => b < z0) wl v5 ls) ∧ (Sg (gI .i64) (fun b _ => b < z0) wl vr50 (curtF ls need)) ∧ (Ar (gI .i64) wl b66 33 0 (vec3 (cutF ls need) (me ls) ls.length) 3) ∧ (Ar (gI .i64) wl b71 33 0 (vec3 (am ls) (me ls) ls.length) 3) ∧ (Below w.heap.size w wl) ∧ (w79.heap.size ≤ wl.heap.size)) (fun (uu : Nat) => 3 - uu) (1) ?_ ?_
              · exact ⟨Off.refl _ _, (hF141 14).trans (rfl), ⟨Nat.le_refl _, by decide⟩, hl, hcu, hb68, hb73, hE, Nat.le_refl _⟩
              · clear hE hl hcu hb68 hb73
                rintro uu f143 w144 ⟨hoff145, hs146, hu, hl, hcu, hb68, hb73, hE, hz142⟩
                refine wseq ?_
                refine wseq ?_
                refine wregion ?_
                refine RL.val rfl rfl (by decide) (r_move_as (v := (.int .i64 (((uu : Nat) : Int)))) hs146) ?_
                refine RL.val rfl rfl (by decide) (r_lss (k := .i64) (a := ((uu : Nat) : Int)) (b := 3) rfl rfl) ?_
                refine RL.nil ?_
                refine wcond (b := decide (((uu : Nat) : Int) < 3)) rfl (fun hb147 => ?_) (fun hb147 => ?_)
                · have hb147p := hb147
                  replace hb147p := of_decide_eq_true hb147p
                  refine wskip ?_
                  refine wseq ?_
                  refine wblock ?_
                  refine wseq ?_
                  refine wregion ?_
                  refine RL.val rfl rfl (by decide) (r_assign_as (v := (.int .i64 (0))) rfl) ?_
                  refine RL.nil ?_
                  refine wblock ?_
                  refine wset fun F148 hF149 => ?_
                  refine wloop (σ := Nat) (fun (vv : Nat) fl wl => Off [4, 15, 133, 134, 135, 136, 137, 138, 139, 140, 141, 142, 143, 144, 145, 146, 147, 148, 149, 150] F148 fl ∧ fl 15 = (.int .i64 (((vv : Nat) : Int))) ∧ (vv ≤ uu) ∧ (Ss loadC 2 (fun b _ => b < z0) wl v5 ls) ∧ (Sg (gI .i64) (fun b _ => b < z0) wl vr50 (curtF ls need)) ∧ (Ar (gI .i64) wl b66 33 0 (vec3 (cutF ls need) (me ls) ls.length) 3) ∧ (Ar (gI .i64) wl b71 33 0 (vec3 (am ls) (me ls) ls.length) 3) ∧ (Below w.heap.size w wl) ∧ (w144.heap.size ≤ wl.heap.size)) (fun (vv : Nat) => uu - vv) (0) ?_ ?_
                  · exact ⟨Off.refl _ _, (hF149 15).trans (rfl), Nat.zero_le _, hl, hcu, hb68, hb73, hE, Nat.le_refl _⟩
                  · clear hE hl hcu hb68 hb73
                    rintro vv f151 w152 ⟨hoff153, hs154, hv, hl, hcu, hb68, hb73, hE, hz150⟩
                    refine wseq ?_
                    refine wseq ?_
                    refine wregion ?_
                    refine RL.val rfl rfl (by decide) (r_move_as (v := (.int .i64 (((vv : Nat) : Int)))) hs154) ?_
                    refine RL.val rfl rfl (by decide) (r_move_as (v := (.int .i64 (((uu : Nat) : Int)))) ((hoff153 14 rfl).trans ((hF149 14).trans hs146))) ?_
                    refine RL.val rfl rfl (by decide) (r_lss (k := .i64) (a := ((vv : Nat) : Int)) (b := ((uu : Nat) : Int)) rfl rfl) ?_
                    refine RL.nil ?_
                    refine wcond (b := decide (((vv : Nat) : Int) < ((uu : Nat) : Int))) rfl (fun hb155 => ?_) (fun hb155 => ?_)
                    · have hb155p := hb155
                      replace hb155p := of_decide_eq_true hb155p
                      refine wskip ?_
                      refine wseq ?_
                      refine wblock ?_
                      refine wseq ?_
                      refine wdraw mixed fun w156 he157 => ?_
                      have he157z := he157.size
                      replace hE := Below.ext hE (by omega) he157
                      replace hl := hl.tr (Sm.ext he157)
                      replace hcu := hcu.tr (Sm.ext he157)
                      replace hb68 := hb68.ext he157
                      replace hb73 := hb73.ext he157
                      refine RA.take 0 rfl (by kernel_rfl) rfl rfl (by decide) (fun _ => r_move_as (v := (.int .i64 (((uu : Nat) : Int)))) ((hoff153 14 rfl).trans ((hF149 14).trans hs146))) ?_
                      refine RA.take 1 rfl (by kernel_rfl) rfl rfl (by decide) (fun _ => r_indexArr (i := ((uu : Nat) : Int)) Try.underlying33 ty3 ((hoff153 11 rfl).trans ((hF149 11).trans ((hoff145 11 rfl).trans ((hF141 11).trans ((hoff80 11 rfl).trans (hF76 11)))))) rfl (by omega) (by omega)) ?_
                      have hc158 := hb68.cell (i := ((uu : Nat) : Int)) (uu) (by omega) (by omega)
                      rw [show (vec3 (cutF ls need) (me ls) ls.length).getD (uu) default = sm (cutF ls need) (me ls) ((uu : Nat) : Int) ls.length from (vec3_at _ _ _ (m := ((uu : Nat) : Int)) (by omega) (by omega))] at hc158
                      refine RA.rd 2 rfl (by kernel_rfl) rfl rfl rfl (by decide) (Ext.refl _) (fun u hu => r_load (v := (.int .i64 (sm (cutF ls need) (me ls) ((uu : Nat) : Int) ls.length))) Try.underlying3 ag3 rfl (cell_ext hu hc158)) ?_
                      refine RA.take 3 rfl (by kernel_rfl) rfl rfl (by decide) (fun _ => r_gtr (k := .i64) (a := sm (cutF ls need) (me ls) ((uu : Nat) : Int) ls.length) (b := 0) rfl rfl) ?_
                      refine RA.take 4 rfl (by kernel_rfl) rfl rfl (by decide) (fun _ => r_move_as (v := (.bool (decide (0 < (sm (cutF ls need) (me ls) ((uu : Nat) : Int) ls.length))))) rfl) ?_
                      rcases Bool.eq_false_or_eq_true (decide (0 < (sm (cutF ls need) (me ls) ((uu : Nat) : Int) ls.length))) with hb159 | hb159
                      · have hb159p := hb159
                        replace hb159p := of_decide_eq_true hb159p
                        have hpos := hb159p
                        refine RA.gtake 5 rfl (by kernel_rfl) rfl rfl (bool_eq hb159) rfl (by decide) (fun _ => r_move_as (v := (.int .i64 (((vv : Nat) : Int)))) hs154) ?_
                        refine RA.gtake 6 rfl (by kernel_rfl) rfl rfl (bool_eq hb159) rfl (by decide) (fun _ => r_indexArr (i := ((vv : Nat) : Int)) Try.underlying33 ty3 ((hoff153 11 rfl).trans ((hF149 11).trans ((hoff145 11 rfl).trans ((hF141 11).trans ((hoff80 11 rfl).trans (hF76 11)))))) rfl (by omega) (by omega)) ?_
                        have hc160 := hb68.cell (i := ((vv : Nat) : Int)) (vv) (by omega) (by omega)
                        rw [show (vec3 (cutF ls need) (me ls) ls.length).getD (vv) default = sm (cutF ls need) (me ls) ((vv : Nat) : Int) ls.length from (vec3_at _ _ _ (m := ((vv : Nat) : Int)) (by omega) (by omega))] at hc160
                        refine RA.grd 7 rfl (by kernel_rfl) rfl rfl rfl (bool_eq hb159) rfl (by decide) (Ext.refl _) (fun u hu => r_load (v := (.int .i64 (sm (cutF ls need) (me ls) ((vv : Nat) : Int) ls.length))) Try.underlying3 ag3 rfl (cell_ext hu hc160)) ?_
                        refine RA.gtake 8 rfl (by kernel_rfl) rfl rfl (bool_eq hb159) rfl (by decide) (fun _ => r_move_as (v := (.int .i64 (((vv : Nat) : Int)))) hs154) ?_
                        refine RA.gtake 9 rfl (by kernel_rfl) rfl rfl (bool_eq hb159) rfl (by decide) (fun _ => r_indexArr (i := ((vv : Nat) : Int)) Try.underlying33 ty3 ((hoff153 12 rfl).trans ((hF149 12).trans ((hoff145 12 rfl).trans ((hF141 12).trans ((hoff80 12 rfl).trans (hF76 12)))))) rfl (by omega) (by omega)) ?_
                        have hc161 := hb73.cell (i := ((vv : Nat) : Int)) (vv) (by omega) (by omega)
                        rw [show (vec3 (am ls) (me ls) ls.length).getD (vv) default = sm (am ls) (me ls) ((vv : Nat) : Int) ls.length from (vec3_at _ _ _ (m := ((vv : Nat) : Int)) (by omega) (by omega))] at hc161
                        refine RA.grd 10 rfl (by kernel_rfl) rfl rfl rfl (bool_eq hb159) rfl (by decide) (Ext.refl _) (fun u hu => r_load (v := (.int .i64 (sm (am ls) (me ls) ((vv : Nat) : Int) ls.length))) Try.underlying3 ag3 rfl (cell_ext hu hc161)) ?_
                        refine RA.gtake 11 rfl (by kernel_rfl) rfl rfl (bool_eq hb159) rfl (by decide) (fun _ => r_neq (k := .i64) (a := sm (cutF ls need) (me ls) ((vv : Nat) : Int) ls.length) (b := sm (am ls) (me ls) ((vv : Nat) : Int) ls.length) rfl rfl) ?_
                        refine RA.take 12 rfl (by kernel_rfl) rfl rfl (by decide) (fun _ => r_pick_t (v := (.bool (decide ((sm (cutF ls need) (me ls) ((vv : Nat) : Int) ls.length) ≠ (sm (am ls) (me ls) ((vv : Nat) : Int) ls.length))))) (bool_eq hb159) rfl) ?_
                        refine RA.done (by kernel_rfl) ?_
                        refine wcond (b := decide ((sm (cutF ls need) (me ls) ((vv : Nat) : Int) ls.length) ≠ (sm (am ls) (me ls) ((vv : Nat) : Int) ls.length))) rfl (fun hb162 => ?_) (fun hb162 => ?_)
                        · have hb162p := hb162
                          replace hb162p := of_decide_eq_true hb162p
                          exact absurd (hF2 (uu : Nat) (vv : Nat) (by omega) (by omega) (by omega) hpos) hb162p
                        · have hb162p := hb162
                          replace hb162p := of_decide_eq_false hb162p
                          refine wskip ?_
                          refine wregion ?_
                          refine RL.val rfl rfl (by decide) (r_move_as (v := (.int .i64 (((vv : Nat) : Int)))) hs154) ?_
                          refine RL.val rfl rfl (by decide) (r_add (k := .i64) (a := ((vv : Nat) : Int)) (b := 1) (c := ((vv : Nat) : Int) + 1) rfl rfl (wi64 (by omega))) ?_
                          refine RL.val rfl rfl (by decide) (r_assign_as (v := (.int .i64 (((vv : Nat) : Int) + 1))) rfl) ?_
                          refine RL.nil ?_
                          refine ⟨(vv + 1), ⟨?_, ?_, ?_, ?_, ?_, ?_, ?_, ?_, ?_⟩, ?_⟩
                          · exact (by repeat (first | exact hoff153 | refine Off.st ?_ (by decide) _ | refine Off.via hoff145 (by decide) ?_ | refine Off.eq hF141 ?_ | refine Off.via hoff80 (by decide) ?_ | refine Off.eq hF76 ?_ | refine Off.via hoff12 (by decide) ?_ | refine Off.eq hF8 ?_))
                          · first | rfl | exact int_eq (by omega) | exact bool_eq (by simp)
                          · omega
                          · exact hl
                          · exact hcu
                          · exact hb68
                          · exact hb73
                          · exact hE
                          · omega
                          · (try dsimp only)
                            omega
                      · have hb159p := hb159
                        replace hb159p := of_decide_eq_false hb159p
                        refine RA.gno 5 rfl (by kernel_rfl) rfl rfl (.inl (bool_eq hb159)) rfl (by decide) ?_
                        refine RA.gno 6 rfl (by kernel_rfl) rfl rfl (.inl (bool_eq hb159)) rfl (by decide) ?_
                        refine RA.gno 7 rfl (by kernel_rfl) rfl rfl (.inl (bool_eq hb159)) rfl (by decide) ?_
                        refine RA.gno 8 rfl (by kernel_rfl) rfl rfl (.inl (bool_eq hb159)) rfl (by decide) ?_
                        refine RA.gno 9 rfl (by kernel_rfl) rfl rfl (.inl (bool_eq hb159)) rfl (by decide) ?_
                        refine RA.gno 10 rfl (by kernel_rfl) rfl rfl (.inl (bool_eq hb159)) rfl (by decide) ?_
                        refine RA.gno 11 rfl (by kernel_rfl) rfl rfl (.inl (bool_eq hb159)) rfl (by decide) ?_
                        refine RA.take 12 rfl (by kernel_rfl) rfl rfl (by decide) (fun _ => r_pick_f (v := (.bool (false))) (bool_eq hb159) rfl) ?_
                        refine RA.done (by kernel_rfl) ?_
                        refine wcond_f rfl ?_
                        refine wskip ?_
                        refine wregion ?_
                        refine RL.val rfl rfl (by decide) (r_move_as (v := (.int .i64 (((vv : Nat) : Int)))) hs154) ?_
                        refine RL.val rfl rfl (by decide) (r_add (k := .i64) (a := ((vv : Nat) : Int)) (b := 1) (c := ((vv : Nat) : Int) + 1) rfl rfl (wi64 (by omega))) ?_
                        refine RL.val rfl rfl (by decide) (r_assign_as (v := (.int .i64 (((vv : Nat) : Int) + 1))) rfl) ?_
                        refine RL.nil ?_
                        refine ⟨(vv + 1), ⟨?_, ?_, ?_, ?_, ?_, ?_, ?_, ?_, ?_⟩, ?_⟩
                        · exact (by repeat (first | exact hoff153 | refine Off.st ?_ (by decide) _ | refine Off.via hoff145 (by decide) ?_ | refine Off.eq hF141 ?_ | refine Off.via hoff80 (by decide) ?_ | refine Off.eq hF76 ?_ | refine Off.via hoff12 (by decide) ?_ | refine Off.eq hF8 ?_))
                        · first | rfl | exact int_eq (by omega) | exact bool_eq (by simp)
                        · omega
                        · exact hl
                        · exact hcu
                        · exact hb68
                        · exact hb73
                        · exact hE
                        · omega
                        · (try dsimp only)
                          omega
                    · have hb155p := hb155
                      replace hb155p := of_decide_eq_false hb155p
                      refine wexit ?_
                      refine wregion ?_
                      refine RL.val rfl rfl (by decide) (r_move_as (v := (.int .i64 (((uu : Nat) : Int)))) ((hoff153 14 rfl).trans ((hF149 14).trans hs146))) ?_
                      refine RL.val rfl rfl (by decide) (r_add (k := .i64) (a := ((uu : Nat) : Int)) (b := 1) (c := ((uu : Nat) : Int) + 1) rfl rfl (wi64 (by omega))) ?_
                      refine RL.val rfl rfl (by decide) (r_assign_as (v := (.int .i64 (((uu : Nat) : Int) + 1))) rfl) ?_
                      refine RL.nil ?_
                      refine ⟨(uu + 1), ⟨?_, ?_, ?_, ?_, ?_, ?_, ?_, ?_, ?_⟩, ?_⟩
                      · exact (by repeat (first | exact hoff145 | refine Off.st ?_ (by decide) _ | refine Off.via hoff153 (by decide) ?_ | refine Off.eq hF149 ?_ | refine Off.via hoff80 (by decide) ?_ | refine Off.eq hF76 ?_ | refine Off.via hoff12 (by decide) ?_ | refine Off.eq hF8 ?_))
                      · first | rfl | exact int_eq (by omega) | exact bool_eq (by simp)
                      · omega
                      · exact hl
                      · exact hcu
                      · exact hb68
                      · exact hb73
                      · exact hE
                      · omega
                      · (try dsimp only)
                        omega
                · have hb147p := hb147
                  replace hb147p := of_decide_eq_false hb147p
                  refine wexit ?_
                  refine wseq ?_
                  refine wseq ?_
                  refine wregion ?_
                  refine RL.val rfl rfl (by decide) (r_assign_as (v := (.int .i64 (0))) rfl) ?_
                  refine RL.nil ?_
                  refine wblock ?_
                  refine wset fun F163 hF164 => ?_
                  refine wloop (σ := Nat) (fun (j : Nat) fl wl => Off [4, 16, 17, 18, 151, 152, 153, 154, 155, 156, 157, 158, 159, 160, 161, 162, 163, 164, 165, 166, 167, 168, 169, 170, 171, 172, 173, 174, 175, 176, 177, 178, 179, 180, 181, 182, 183, 184, 185, 186, 187, 188, 189, 190, 191, 192, 193, 194, 195, 196, 197, 198] F163 fl ∧ fl 16 = (.int .i64 (((j : Nat) : Int))) ∧ (j ≤ ls.length) ∧ (Ss loadC 2 (fun b _ => b < z0) wl v5 ls) ∧ (Sg (gI .i64) (fun b _ => b < z0) wl vr50 (curtF ls need)) ∧ (Ar (gI .i64) wl b66 33 0 (vec3 (cutF ls need) (me ls) ls.length) 3) ∧ (Ar (gI .i64) wl b71 33 0 (vec3 (am ls) (me ls) ls.length) 3) ∧ (Below w.heap.size w wl) ∧ (w144.heap.size ≤ wl.heap.size)) (fun (j : Nat) => ls.length - j) (0) ?_ ?_
                  · exact ⟨Off.refl _ _, (hF164 16).trans (rfl), Nat.zero_le _, hl, hcu, hb68, hb73, hE, Nat.le_refl _⟩
                  · clear hE hl hcu hb68 hb73
                    rintro j f166 w167 ⟨hoff168, hs169, hj, hl, hcu, hb68, hb73, hE, hz165⟩
                    refine wseq ?_
                    refine wseq ?_
                    refine wregion ?_
                    refine RL.val rfl rfl (by decide) (r_move_as (v := (.int .i64 (((j : Nat) : Int)))) hs169) ?_
                    refine RL.val rfl rfl (by decide) (r_move_as (v := vr50) ((hoff168 8 rfl).trans ((hF164 8).trans ((hoff145 8 rfl).trans ((hF141 8).trans ((hoff80 8 rfl).trans (hF76 8))))))) ?_
                    refine RL.val rfl rfl (by decide) (r_len Try.underlying26 hv56) ?_
                    refine RL.val rfl rfl (by decide) (r_lss (k := .i64) (a := ((j : Nat) : Int)) (b := (((curtF ls need).length : Nat) : Int)) rfl rfl) ?_
                    refine RL.nil ?_
                    refine wcond (b := decide (((j : Nat) : Int) < (((curtF ls need).length : Nat) : Int))) rfl (fun hb170 => ?_) (fun hb170 => ?_)
                    · have hb170p := hb170
                      replace hb170p := of_decide_eq_true hb170p
                      refine wskip ?_
                      refine wseq ?_
                      refine wblock ?_
                      refine wseq ?_
                      have hil : j < ls.length := by omega
                      obtain ⟨c, hck⟩ : ∃ c, c = cutF ls need (j : Nat) := ⟨_, rfl⟩
                      have hcc : (curtF ls need).getD j default = c := by rw [hck]; exact curtF_at hil
                      have hcb := hF1 (j : Nat) (by omega) (by omega)
                      rw [← hck] at hcb
                      obtain ⟨m, hmk⟩ : ∃ m, m = me ls (j : Nat) := ⟨_, rfl⟩
                      have hm2 : (ls.getD j default).2 = m := hmk.symm
                      have hmb := hmi j hil
                      rw [hm2] at hmb
                      obtain ⟨a, ha2⟩ : ∃ a, a = (ls.getD j default).1 := ⟨_, rfl⟩
                      have hak2 : (ls.getD j default).1 = am ls (j : Nat) := rfl
                      have hab := hai j hil
                      replace hcb : 0 ≤ c ∧ c ≤ (ls.getD j default).1 := hcb
                      obtain ⟨SA, hSA⟩ : ∃ x, x = sm (am ls) (me ls) m ls.length := ⟨_, rfl⟩
                      obtain ⟨SC, hSC⟩ : ∃ x, x = sm (cutF ls need) (me ls) m ls.length := ⟨_, rfl⟩
                      have hsb1 := sm_bd (f := cutF ls need) (g := me ls) (m := m) (B := 29) (k := ls.length) (by decide) hci
                      have hsb2 := sm_bd (f := am ls) (g := me ls) (m := m) (B := 29) (k := ls.length) (by decide) hai2
                      rw [← hSC] at hsb1
                      rw [← hSA] at hsb2
                      have hF := hF3 (j : Nat) (by omega) (by omega)
                      rw [← hmk, ← hSA, ← hSC, ← hck, ← hak2] at hF
                      obtain ⟨x, hx⟩ : ∃ x, x = c * SA := ⟨_, rfl⟩
                      obtain ⟨y, hy⟩ : ∃ y, y = SC * (ls.getD j default).1 := ⟨_, rfl⟩
                      rw [← hx, ← hy] at hF
                      have hxb := mul_small (a := c) (b := SA) (by omega) (by omega)
                      have hyb := mul_small (a := SC) (b := (ls.getD j default).1) (by omega) (by omega)
                      rw [← hx] at hxb
                      rw [← hy] at hyb
                      refine wregion ?_
                      refine RL.val rfl rfl (by decide) (r_move_as (v := v5) ((hoff168 5 rfl).trans ((hF164 5).trans ((hoff145 5 rfl).trans ((hF141 5).trans ((hoff80 5 rfl).trans ((hF76 5).trans hs14))))))) ?_
                      refine RL.val rfl rfl (by decide) (r_move_as (v := (.int .i64 (((j : Nat) : Int)))) hs169) ?_
                      obtain ⟨b171, o172, c173, hv174, hc175⟩ := hl.ix (i := ((j : Nat) : Int)) (j) (by omega) (by omega)
                      refine RL.val rfl rfl (by decide) (r_indexAddr (i := ((j : Nat) : Int)) Try.underlying22 ty25 hv174 rfl (by omega) (by omega)) ?_
                      refine RL.val rfl rfl (by decide) (r_fieldAddr Try.underlying25 rfl ty3 rfl) ?_
                      refine RL.val rfl rfl (by decide) (r_load (v := (.int .i64 ((ls.getD (j) default).2))) Try.underlying3 ag3 rfl (hc175 1 _ rfl)) ?_
                      refine RL.val rfl rfl (by decide) (r_assign_as (v := (.int .i64 ((ls.getD (j) default).2))) rfl) ?_
                      refine RL.nil ?_
                      refine wseq ?_
                      refine wdraw mixed fun w176 he177 => ?_
                      have he177z := he177.size
                      replace hE := Below.ext hE (by omega) he177
                      replace hl := hl.tr (Sm.ext he177)
                      replace hcu := hcu.tr (Sm.ext he177)
                      replace hb68 := hb68.ext he177
                      replace hb73 := hb73.ext he177
                      refine RA.take 0 rfl (by kernel_rfl) rfl rfl (by decide) (fun _ => r_move_as (v := vr50) ((hoff168 8 rfl).trans ((hF164 8).trans ((hoff145 8 rfl).trans ((hF141 8).trans ((hoff80 8 rfl).trans (hF76 8))))))) ?_
                      refine RA.take 1 rfl (by kernel_rfl) rfl rfl (by decide) (fun _ => r_move_as (v := (.int .i64 (((j : Nat) : Int)))) hs169) ?_
                      obtain ⟨b178, o179, c180, hv181, hc182⟩ := hcu.ix (i := ((j : Nat) : Int)) (j) (by omega) (by omega)
                      rw [show (curtF ls need).getD (j) default = c from hcc] at hc182
                      refine RA.take 2 rfl (by kernel_rfl) rfl rfl (by decide) (fun _ => r_indexAddr (i := ((j : Nat) : Int)) Try.underlying26 ty3 hv181 rfl (by omega) (by omega)) ?_
                      refine RA.rd 3 rfl (by kernel_rfl) rfl rfl rfl (by decide) (Ext.refl _) (fun u hu => r_load (v := (.int .i64 (c))) Try.underlying3 ag3 rfl (cell_ext hu hc182)) ?_
                      refine RA.take 4 rfl (by kernel_rfl) rfl rfl (by decide) (fun _ => r_move_as (v := (.int .i64 ((ls.getD (j) default).2))) rfl) ?_
                      refine RA.take 5 rfl (by kernel_rfl) rfl rfl (by decide) (fun _ => r_indexArr (i := (ls.getD (j) default).2) Try.underlying33 ty3 ((hoff168 12 rfl).trans ((hF164 12).trans ((hoff145 12 rfl).trans ((hF141 12).trans ((hoff80 12 rfl).trans (hF76 12)))))) rfl (by omega) (by omega)) ?_
                      have hc183 := hb73.cell (i := (ls.getD (j) default).2) (m.toNat) (by omega) (by omega)
                      rw [show (vec3 (am ls) (me ls) ls.length).getD (m.toNat) default = SA from ((vec3_at _ _ _ hmb.1 hmb.2).trans hSA.symm)] at hc183
                      refine RA.rd 6 rfl (by kernel_rfl) rfl rfl rfl (by decide) (Ext.refl _) (fun u hu => r_load (v := (.int .i64 (SA))) Try.underlying3 ag3 rfl (cell_ext hu hc183)) ?_
                      refine RA.take 7 rfl (by kernel_rfl) rfl rfl (by decide) (fun _ => r_mul (k := .i64) (a := c) (b := SA) (c := x) rfl rfl (by rw [← hx]; exact wi64 (by omega))) ?_
                      refine RA.take 8 rfl (by kernel_rfl) rfl rfl (by decide) (fun _ => r_move_as (v := (.int .i64 ((ls.getD (j) default).2))) rfl) ?_
                      refine RA.take 9 rfl (by kernel_rfl) rfl rfl (by decide) (fun _ => r_indexArr (i := (ls.getD (j) default).2) Try.underlying33 ty3 ((hoff168 11 rfl).trans ((hF164 11).trans ((hoff145 11 rfl).trans ((hF141 11).trans ((hoff80 11 rfl).trans (hF76 11)))))) rfl (by omega) (by omega)) ?_
                      have hc184 := hb68.cell (i := (ls.getD (j) default).2) (m.toNat) (by omega) (by omega)
                      rw [show (vec3 (cutF ls need) (me ls) ls.length).getD (m.toNat) default = SC from ((vec3_at _ _ _ hmb.1 hmb.2).trans hSC.symm)] at hc184
                      refine RA.rd 10 rfl (by kernel_rfl) rfl rfl rfl (by decide) (Ext.refl _) (fun u hu => r_load (v := (.int .i64 (SC))) Try.underlying3 ag3 rfl (cell_ext hu hc184)) ?_
                      refine RA.take 11 rfl (by kernel_rfl) rfl rfl (by decide) (fun _ => r_move_as (v := v5) ((hoff168 5 rfl).trans ((hF164 5).trans ((hoff145 5 rfl).trans ((hF141 5).trans ((hoff80 5 rfl).trans ((hF76 5).trans hs14))))))) ?_
                      refine RA.take 12 rfl (by kernel_rfl) rfl rfl (by decide) (fun _ => r_move_as (v := (.int .i64 (((j : Nat) : Int)))) hs169) ?_
                      obtain ⟨b185, o186, c187, hv188, hc189⟩ := hl.ix (i := ((j : Nat) : Int)) (j) (by omega) (by omega)
                      refine RA.take 13 rfl (by kernel_rfl) rfl rfl (by decide) (fun _ => r_indexAddr (i := ((j : Nat) : Int)) Try.underlying22 ty25 hv188 rfl (by omega) (by omega)) ?_
                      refine RA.take 14 rfl (by kernel_rfl) rfl rfl (by decide) (fun _ => r_fieldAddr Try.underlying25 rfl ty3 rfl) ?_
                      refine RA.rd 15 rfl (by kernel_rfl) rfl rfl rfl (by decide) (Ext.refl _) (fun u hu => r_load (v := (.int .i64 ((ls.getD (j) default).1))) Try.underlying3 ag3 rfl (cell_ext hu (hc189 0 _ rfl))) ?_
                      refine RA.take 16 rfl (by kernel_rfl) rfl rfl (by decide) (fun _ => r_mul (k := .i64) (a := SC) (b := (ls.getD (j) default).1) (c := y) rfl rfl (by rw [← hy]; exact wi64 (by omega))) ?_
                      refine RA.take 17 rfl (by kernel_rfl) rfl rfl (by decide) (fun _ => r_sub (k := .i64) (a := x) (b := y) (c := x - y) rfl rfl (wi64 (by omega))) ?_
                      refine RA.take 18 rfl (by kernel_rfl) rfl rfl (by decide) (fun _ => r_assign_as (v := (.int .i64 (x - y))) rfl) ?_
                      refine RA.done (by kernel_rfl) ?_
                      refine wseq ?_
                      refine wregion ?_
                      refine RL.val rfl rfl (by decide) (r_move_as (v := (.int .i64 ((ls.getD (j) default).2))) rfl) ?_
                      refine RL.val rfl rfl (by decide) (r_indexArr (i := (ls.getD (j) default).2) Try.underlying33 ty3 ((hoff168 12 rfl).trans ((hF164 12).trans ((hoff145 12 rfl).trans ((hF141 12).trans ((hoff80 12 rfl).trans (hF76 12)))))) rfl (by omega) (by omega)) ?_
                      have hc190 := hb73.cell (i := (ls.getD (j) default).2) (m.toNat) (by omega) (by omega)
                      rw [show (vec3 (am ls) (me ls) ls.length).getD (m.toNat) default = SA from ((vec3_at _ _ _ hmb.1 hmb.2).trans hSA.symm)] at hc190
                      refine RL.val rfl rfl (by decide) (r_load (v := (.int .i64 (SA))) Try.underlying3 ag3 rfl hc190) ?_
                      refine RL.val rfl rfl (by decide) (r_gtr (k := .i64) (a := SA) (b := 0) rfl rfl) ?_
                      refine RL.val rfl rfl (by decide) (r_move_as (v := (.bool (decide (0 < SA)))) rfl) ?_
                      rcases Bool.eq_false_or_eq_true (decide (0 < SA)) with hb191 | hb191
                      · have hb191p := hb191
                        replace hb191p := of_decide_eq_true hb191p
                        replace hF := hF hb191p
                        refine RL.gval rfl rfl (bool_eq hb191) rfl (by decide) (r_move_as (v := (.int .i64 (x - y))) rfl) ?_
                        refine RL.gval rfl rfl (bool_eq hb191) rfl (by decide) (r_move_as (v := (.int .i64 ((ls.getD (j) default).2))) rfl) ?_
                        refine RL.gval rfl rfl (bool_eq hb191) rfl (by decide) (r_indexArr (i := (ls.getD (j) default).2) Try.underlying33 ty3 ((hoff168 12 rfl).trans ((hF164 12).trans ((hoff145 12 rfl).trans ((hF141 12).trans ((hoff80 12 rfl).trans (hF76 12)))))) rfl (by omega) (by omega)) ?_
                        have hc192 := hb73.cell (i := (ls.getD (j) default).2) (m.toNat) (by omega) (by omega)
                        rw [show (vec3 (am ls) (me ls) ls.length).getD (m.toNat) default = SA from ((vec3_at _ _ _ hmb.1 hmb.2).trans hSA.symm)] at hc192
                        refine RL.gval rfl rfl (bool_eq hb191) rfl (by decide) (r_load (v := (.int .i64 (SA))) Try.underlying3 ag3 rfl hc192) ?_
                        refine RL.gval rfl rfl (bool_eq hb191) rfl (by decide) (r_geq (k := .i64) (a := x - y) (b := SA) rfl rfl) ?_
                        refine RL.gval rfl rfl (bool_eq hb191) rfl (by decide) (r_move_as (v := (.bool (decide (SA ≤ (x - y))))) rfl) ?_
                        rcases Bool.eq_false_or_eq_true (decide (SA ≤ (x - y))) with hb193 | hb193
                        · have hb193p := hb193
                          replace hb193p := of_decide_eq_true hb193p
                          omega
                        · have hb193p := hb193
                          replace hb193p := of_decide_eq_false hb193p
                          refine RL.gval rfl rfl (bool_eq hb193) rfl (by decide) (r_move_as (v := (.int .i64 (x - y))) rfl) ?_
                          refine RL.gval rfl rfl (bool_eq hb193) rfl (by decide) (r_move_as (v := (.int .i64 ((ls.getD (j) default).2))) rfl) ?_
                          refine RL.gval rfl rfl (bool_eq hb193) rfl (by decide) (r_indexArr (i := (ls.getD (j) default).2) Try.underlying33 ty3 ((hoff168 12 rfl).trans ((hF164 12).trans ((hoff145 12 rfl).trans ((hF141 12).trans ((hoff80 12 rfl).trans (hF76 12)))))) rfl (by omega) (by omega)) ?_
                          have hc194 := hb73.cell (i := (ls.getD (j) default).2) (m.toNat) (by omega) (by omega)
                          rw [show (vec3 (am ls) (me ls) ls.length).getD (m.toNat) default = SA from ((vec3_at _ _ _ hmb.1 hmb.2).trans hSA.symm)] at hc194
                          refine RL.gval rfl rfl (bool_eq hb193) rfl (by decide) (r_load (v := (.int .i64 (SA))) Try.underlying3 ag3 rfl hc194) ?_
                          refine RL.gval rfl rfl (bool_eq hb193) rfl (by decide) (r_neg (k := .i64) (a := SA) (c := -SA) rfl ((wi64 (by omega)).trans (by omega))) ?_
                          refine RL.gval rfl rfl (bool_eq hb193) rfl (by decide) (r_leq (k := .i64) (a := x - y) (b := -SA) rfl rfl) ?_
                          refine RL.gval rfl rfl (bool_eq hb191) rfl (by decide) (r_pick_f (v := (.bool (decide ((x - y) ≤ (-SA))))) (bool_eq hb193) rfl) ?_
                          refine RL.val rfl rfl (by decide) (r_pick_t (v := (.bool (decide ((x - y) ≤ (-SA))))) (bool_eq hb191) rfl) ?_
                          refine RL.nil ?_
                          refine wcond (b := decide ((x - y) ≤ (-SA))) rfl (fun hb195 => ?_) (fun hb195 => ?_)
                          · have hb195p := hb195
                            replace hb195p := of_decide_eq_true hb195p
                            omega
                          · have hb195p := hb195
                            replace hb195p := of_decide_eq_false hb195p
                            refine wskip ?_
                            refine wregion ?_
                            refine RL.val rfl rfl (by decide) (r_move_as (v := (.int .i64 (((j : Nat) : Int)))) hs169) ?_
                            refine RL.val rfl rfl (by decide) (r_add (k := .i64) (a := ((j : Nat) : Int)) (b := 1) (c := ((j : Nat) : Int) + 1) rfl rfl (wi64 (by omega))) ?_
                            refine RL.val rfl rfl (by decide) (r_assign_as (v := (.int .i64 (((j : Nat) : Int) + 1))) rfl) ?_
                            refine RL.nil ?_
                            refine ⟨(j + 1), ⟨?_, ?_, ?_, ?_, ?_, ?_, ?_, ?_, ?_⟩, ?_⟩
                            · exact (by repeat (first | exact hoff168 | refine Off.st ?_ (by decide) _ | refine Off.via hoff145 (by decide) ?_ | refine Off.eq hF141 ?_ | refine Off.via hoff80 (by decide) ?_ | refine Off.eq hF76 ?_ | refine Off.via hoff12 (by decide) ?_ | refine Off.eq hF8 ?_))
                            · first | rfl | exact int_eq (by omega) | exact bool_eq (by simp)
                            · omega
                            · exact hl
                            · exact hcu
                            · exact hb68
                            · exact hb73
                            · exact hE
                            · omega
                            · (try dsimp only)
                              omega
                      · have hb191p := hb191
                        replace hb191p := of_decide_eq_false hb191p
                        refine RL.gno rfl rfl (bool_eq hb191) rfl (by decide) ?_
                        refine RL.gno rfl rfl (bool_eq hb191) rfl (by decide) ?_
                        refine RL.gno rfl rfl (bool_eq hb191) rfl (by decide) ?_
                        refine RL.gno rfl rfl (bool_eq hb191) rfl (by decide) ?_
                        refine RL.gno rfl rfl (bool_eq hb191) rfl (by decide) ?_
                        refine RL.gno rfl rfl (bool_eq hb191) rfl (by decide) ?_
                        refine RL.gun rfl rfl rfl rfl (by decide) ?_
                        refine RL.gun rfl rfl rfl rfl (by decide) ?_
                        refine RL.gun rfl rfl rfl rfl (by decide) ?_
                        refine RL.gun rfl rfl rfl rfl (by decide) ?_
                        refine RL.gun rfl rfl rfl rfl (by decide) ?_
                        refine RL.gun rfl rfl rfl rfl (by decide) ?_
                        refine RL.gno rfl rfl (bool_eq hb191) rfl (by decide) ?_
                        refine RL.val rfl rfl (by decide) (r_pick_f (v := (.bool (false))) (bool_eq hb191) rfl) ?_
                        refine RL.nil ?_
                        refine wcond_f rfl ?_
                        refine wskip ?_
                        refine wregion ?_
                        refine RL.val rfl rfl (by decide) (r_move_as (v := (.int .i64 (((j : Nat) : Int)))) hs169) ?_
                        refine RL.val rfl rfl (by decide) (r_add (k := .i64) (a := ((j : Nat) : Int)) (b := 1) (c := ((j : Nat) : Int) + 1) rfl rfl (wi64 (by omega))) ?_
                        refine RL.val rfl rfl (by decide) (r_assign_as (v := (.int .i64 (((j : Nat) : Int) + 1))) rfl) ?_
                        refine RL.nil ?_
                        refine ⟨(j + 1), ⟨?_, ?_, ?_, ?_, ?_, ?_, ?_, ?_, ?_⟩, ?_⟩
                        · exact (by repeat (first | exact hoff168 | refine Off.st ?_ (by decide) _ | refine Off.via hoff145 (by decide) ?_ | refine Off.eq hF141 ?_ | refine Off.via hoff80 (by decide) ?_ | refine Off.eq hF76 ?_ | refine Off.via hoff12 (by decide) ?_ | refine Off.eq hF8 ?_))
                        · first | rfl | exact int_eq (by omega) | exact bool_eq (by simp)
                        · omega
                        · exact hl
                        · exact hcu
                        · exact hb68
                        · exact hb73
                        · exact hE
                        · omega
                        · (try dsimp only)
                          omega
                    · have hb170p := hb170
                      replace hb170p := of_decide_eq_false hb170p
                      refine wexit ?_
                      refine wseq ?_
                      refine wregion ?_
                      refine RL.val rfl rfl (by decide) (r_move_as (v := (.int .i64 (sumC (cutF ls need) i))) ((hoff168 10 rfl).trans ((hF164 10).trans ((hoff145 10 rfl).trans ((hF141 10).trans hs82))))) ?_
                      refine RL.val rfl rfl (by decide) (r_move_as (v := (.int .i64 (need))) ((hoff168 1 rfl).trans ((hF164 1).trans ((hoff145 1 rfl).trans ((hF141 1).trans ((hoff80 1 rfl).trans (hF76 1))))))) ?_
                      refine RL.val rfl rfl (by decide) (r_eql (k := .i64) (a := sumC (cutF ls need) i) (b := need) rfl rfl) ?_
                      refine RL.val rfl rfl (by decide) (r_assign_as (v := (.bool (decide ((sumC (cutF ls need) i) = need)))) rfl) ?_
                      refine RL.nil ?_
                      refine wret ?_
                      refine ⟨[(.bool (decide ((sumC (cutF ls need) i) = need)))], ⟨rfl, trivial⟩, ?_⟩
                      exact ⟨bool_eq (decide_eq_true (by rw [hkn]; exact hF4)), hE⟩

end Go.Proofs.Ytbgaehajbjdifaa
