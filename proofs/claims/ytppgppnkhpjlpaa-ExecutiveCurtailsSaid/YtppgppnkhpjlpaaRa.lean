/- Walks, printed by program. -/
import Derived.Test.YtppgppnkhpjlpaaWa
import Derived.Test.YtppgppnkhpjlpaaVgk
namespace Go.Proofs.Ytppgppnkhpjlpaa
open Go.Vg Go.RowKit
set_option linter.unusedVariables false

open Go.Vm
set_option maxHeartbeats 1000000 in
theorem r01_trim {w : World} {Dx : Nat → TypeId → Prop} {vx : Value} {x : List Nat} (hx : Sg (gN .u32) Dx w vx x) (lmx : Lm x) (lnx : x.length ≤ 17592186044416) :
    Calls Try.prog 58 #[vx] w fun e w' => ∃ v, e = .returned v ∧ Sg (gN .u32) (fun b T => w.heap.size ≤ b ∧ T = 52) w' v (digs (val x)) ∧ Ext w w' := by
  have hE : Below w.heap.size w w := Below.refl _ _
  refine calls_of (n := 23) (rs := [.tmp 2]) Try.func58 rfl rfl rfl (Nat.le_of_ble_eq_true rfl) ?_
  refine wset fun F0 hF0 => ?_
  refine wseq ?_
  refine wregion ?_
  refine RL.val rfl rfl (by decide) (r_assign_as (v := (.slice none (0) (0))) rfl) ?_
  refine RL.nil ?_
  refine wseq ?_
  refine wregion ?_
  refine RL.val rfl rfl (by decide) (r_move_as (v := vx) (hF0 0)) ?_
  obtain ⟨A1, c2, hv3, hc4, hc5⟩ := hx.len
  refine RL.val rfl rfl (by decide) (r_len Try.underlying38 hv3) ?_
  refine RL.val rfl rfl (by decide) (r_assign_as (v := (.int .i64 (((x.length : Nat) : Int)))) rfl) ?_
  refine RL.nil ?_
  refine wseq ?_
  refine wblock ?_
  refine wset fun F6 hF7 => ?_
  refine wloop (σ := Nat) (fun (n : Nat) fl wl => Off [3, 6, 7, 8, 9, 10, 11, 12, 13, 14, 15, 16, 17] F6 fl ∧ fl 3 = (.int .i64 (((n : Nat) : Int))) ∧ (n ≤ x.length) ∧ (val (x.take n) = val x) ∧ (Sg (gN .u32) Dx wl vx x) ∧ (Below w.heap.size w wl) ∧ (w.heap.size ≤ wl.heap.size)) (fun (n : Nat) => n) (x.length) ?_ ?_
  · exact ⟨Off.refl _ _, (hF7 3).trans (rfl), Nat.le_refl _, by rw [List.take_of_length_le (Nat.le_refl _)], hx, hE, Nat.le_refl _⟩
  · clear hx hE
    rintro n f9 w10 ⟨hoff11, hs12, hn, hv, hx, hE, hz8⟩
    refine wseq ?_
    refine wseq ?_
    refine wregion ?_
    refine RL.val rfl rfl (by decide) (r_move_as (v := (.int .i64 (((n : Nat) : Int)))) hs12) ?_
    refine RL.val rfl rfl (by decide) (r_gtr (k := .i64) (a := ((n : Nat) : Int)) (b := 0) rfl rfl) ?_
    refine RL.val rfl rfl (by decide) (r_move_as (v := (.bool (decide (0 < ((n : Nat) : Int))))) rfl) ?_
    rcases Bool.eq_false_or_eq_true (decide (0 < ((n : Nat) : Int))) with hb13 | hb13
    · have hb13p := hb13
      replace hb13p := of_decide_eq_true hb13p
      refine RL.gval rfl rfl (bool_eq hb13) rfl (by decide) (r_move_as (v := vx) ((hoff11 0 rfl).trans ((hF7 0).trans (hF0 0)))) ?_
      refine RL.gval rfl rfl (bool_eq hb13) rfl (by decide) (r_move_as (v := (.int .i64 (((n : Nat) : Int)))) hs12) ?_
      refine RL.gval rfl rfl (bool_eq hb13) rfl (by decide) (r_sub (k := .i64) (a := ((n : Nat) : Int)) (b := 1) (c := ((n : Nat) : Int) - 1) rfl rfl (wi64 (by omega))) ?_
      obtain ⟨b14, o15, c16, hv17, hc18⟩ := hx.ix (i := ((n : Nat) : Int) - 1) (n - 1) (by omega) (by omega)
      refine RL.gval rfl rfl (bool_eq hb13) rfl (by decide) (r_indexAddr (i := ((n : Nat) : Int) - 1) Try.underlying38 ty52 hv17 rfl (by omega) (by omega)) ?_
      refine RL.gval rfl rfl (bool_eq hb13) rfl (by decide) (r_load (v := (.int .u32 (((x.getD (n - 1) default : Nat) : Int)))) Try.underlying52 ag52 rfl hc18) ?_
      refine RL.gval rfl rfl (bool_eq hb13) rfl (by decide) (r_eql (k := .u32) (a := ((x.getD (n - 1) default : Nat) : Int)) (b := 0) rfl rfl) ?_
      refine RL.val rfl rfl (by decide) (r_pick_t (v := (.bool (decide (((x.getD (n - 1) default : Nat) : Int) = 0)))) (bool_eq hb13) rfl) ?_
      refine RL.nil ?_
      refine wcond (b := decide (((x.getD (n - 1) default : Nat) : Int) = 0)) rfl (fun hb19 => ?_) (fun hb19 => ?_)
      · have hb19p := hb19
        replace hb19p := of_decide_eq_true hb19p
        refine wskip ?_
        refine wblock ?_
        refine wregion ?_
        refine RL.val rfl rfl (by decide) (r_move_as (v := (.int .i64 (((n : Nat) : Int)))) hs12) ?_
        refine RL.val rfl rfl (by decide) (r_sub (k := .i64) (a := ((n : Nat) : Int)) (b := 1) (c := ((n : Nat) : Int) - 1) rfl rfl (wi64 (by omega))) ?_
        refine RL.val rfl rfl (by decide) (r_assign_as (v := (.int .i64 (((n : Nat) : Int) - 1))) rfl) ?_
        refine RL.nil ?_
        refine ⟨(n - 1), ⟨?_, ?_, ?_, ?_, ?_, ?_, ?_⟩, ?_⟩
        · exact (by repeat (first | exact hoff11 | refine Off.st ?_ (by decide) _))
        · first | rfl | exact int_eq (by omega) | exact bool_eq (by simp)
        · omega
        · exact trim_step hn (by omega) hv (by omega)
        · exact hx
        · exact hE
        · omega
        · (try dsimp only)
          omega
      · have hb19p := hb19
        replace hb19p := of_decide_eq_false hb19p
        have hend : n = 0 ∨ x.getD (n - 1) default ≠ 0 := .inr (by omega)
        refine wexit ?_
        refine wseq ?_
        refine wregion ?_
        refine RL.run rfl rfl (by decide) (h_lit (vl := []) (cs := []) Try.underlying38 ty52 rfl (by decide) (by first | (simp [Instr.fill, Value.cells]; done) | rfl | kernel_rfl)) ?_
        rintro _ w20 ⟨b21, rfl, hs24, hb23, he22⟩
        have he22z := he22.size
        replace hx := hx.tr (Sm.ext he22)
        replace hE := Below.ext hE (by omega) he22
        have hb23l := hb23.lt
        refine RL.val rfl rfl (by decide) (r_move_as (v := vx) ((hoff11 0 rfl).trans ((hF7 0).trans (hF0 0)))) ?_
        refine RL.val rfl rfl (by decide) (r_move_as (v := (.int .i64 (((n : Nat) : Int)))) hs12) ?_
        have r25 := hx.take (n) (by omega) hv3
        refine RL.val rfl rfl (by decide) (r_sh (h := ((n : Nat) : Int)) (kk := n) Try.underlying38 ty52 hv3 rfl (by omega) (by omega)) ?_
        have htl : (x.take n).length = n := by rw [List.length_take]; omega
        have ho27 := Ow.made (lo := w.heap.size) (size := 1) (n := 0) hb23 (by omega) rfl (by simp [maxLen])
        refine RL.run rfl rfl (by decide) (h_append (v1 := (.slice (some ⟨b21, 0, none⟩) (0) (0))) (v2 := (.slice A1 (n) (c2))) (n := 0) (m := (x.take (n)).length) (l := []) (news := ((x.take (n)).map (gN .u32))) Try.underlying38 ty52 rfl (by decide) rfl rfl ho27 r25 (by intro u hu; obtain ⟨z, -, rfl⟩ := List.mem_map.1 hu; rfl) (by simp only [maxLen]; omega) (by omega) (by omega)) ?_
        rintro v28 w26 ⟨ho29, hg30⟩
        have hg30z := hg30.size
        replace hE := ho27.below hg30 hE (by omega) (by omega)
        refine RL.val rfl rfl (by decide) (r_assign_as (v := v28) rfl) ?_
        refine RL.nil ?_
        refine wret ?_
        refine ⟨[v28], ⟨rfl, trivial⟩, ?_⟩
        have hres := Ow.sg (g := gN .u32) (D := (fun b T => w.heap.size ≤ b ∧ T = 52)) (xs := x.take n) ho29 (by rw [List.nil_append]) (by omega) (fun _ h => ⟨h, rfl⟩)
        rw [trim_digs lmx hn hv hend] at hres
        exact ⟨hres, hE⟩
    · have hb13p := hb13
      replace hb13p := of_decide_eq_false hb13p
      have hend : n = 0 ∨ x.getD (n - 1) default ≠ 0 := .inl (by omega)
      refine RL.gno rfl rfl (bool_eq hb13) rfl (by decide) ?_
      refine RL.gno rfl rfl (bool_eq hb13) rfl (by decide) ?_
      refine RL.gno rfl rfl (bool_eq hb13) rfl (by decide) ?_
      refine RL.gno rfl rfl (bool_eq hb13) rfl (by decide) ?_
      refine RL.gno rfl rfl (bool_eq hb13) rfl (by decide) ?_
      refine RL.gno rfl rfl (bool_eq hb13) rfl (by decide) ?_
      refine RL.val rfl rfl (by decide) (r_pick_f (v := (.bool (false))) (bool_eq hb13) rfl) ?_
      refine RL.nil ?_
      refine wcond_f rfl ?_
      refine wexit ?_
      refine wseq ?_
      refine wregion ?_
      refine RL.run rfl rfl (by decide) (h_lit (vl := []) (cs := []) Try.underlying38 ty52 rfl (by decide) (by first | (simp [Instr.fill, Value.cells]; done) | rfl | kernel_rfl)) ?_
      rintro _ w31 ⟨b32, rfl, hs35, hb34, he33⟩
      have he33z := he33.size
      replace hx := hx.tr (Sm.ext he33)
      replace hE := Below.ext hE (by omega) he33
      have hb34l := hb34.lt
      refine RL.val rfl rfl (by decide) (r_move_as (v := vx) ((hoff11 0 rfl).trans ((hF7 0).trans (hF0 0)))) ?_
      refine RL.val rfl rfl (by decide) (r_move_as (v := (.int .i64 (((n : Nat) : Int)))) hs12) ?_
      have r36 := hx.take (n) (by omega) hv3
      refine RL.val rfl rfl (by decide) (r_sh (h := ((n : Nat) : Int)) (kk := n) Try.underlying38 ty52 hv3 rfl (by omega) (by omega)) ?_
      have htl : (x.take n).length = n := by rw [List.length_take]; omega
      have ho38 := Ow.made (lo := w.heap.size) (size := 1) (n := 0) hb34 (by omega) rfl (by simp [maxLen])
      refine RL.run rfl rfl (by decide) (h_append (v1 := (.slice (some ⟨b32, 0, none⟩) (0) (0))) (v2 := (.slice A1 (n) (c2))) (n := 0) (m := (x.take (n)).length) (l := []) (news := ((x.take (n)).map (gN .u32))) Try.underlying38 ty52 rfl (by decide) rfl rfl ho38 r36 (by intro u hu; obtain ⟨z, -, rfl⟩ := List.mem_map.1 hu; rfl) (by simp only [maxLen]; omega) (by omega) (by omega)) ?_
      rintro v39 w37 ⟨ho40, hg41⟩
      have hg41z := hg41.size
      replace hE := ho38.below hg41 hE (by omega) (by omega)
      refine RL.val rfl rfl (by decide) (r_assign_as (v := v39) rfl) ?_
      refine RL.nil ?_
      refine wret ?_
      refine ⟨[v39], ⟨rfl, trivial⟩, ?_⟩
      have hres := Ow.sg (g := gN .u32) (D := (fun b T => w.heap.size ≤ b ∧ T = 52)) (xs := x.take n) ho40 (by rw [List.nil_append]) (by omega) (fun _ h => ⟨h, rfl⟩)
      rw [trim_digs lmx hn hv hend] at hres
      exact ⟨hres, hE⟩

set_option maxHeartbeats 1000000 in
theorem r01_equal {w : World} {Dx Dy : Nat → TypeId → Prop} {vx vy : Value} {x y : List Nat} (hx : Sg (gN .u32) Dx w vx x) (hy : Sg (gN .u32) Dy w vy y) :
    Calls Try.prog 42 #[vx, vy] w fun e w' => ∃ v, e = .returned v ∧ v = .bool (decide (x = y)) ∧ Ext w w' := by
  have hE : Below w.heap.size w w := Below.refl _ _
  refine calls_of (n := 26) (rs := [.tmp 4]) Try.func42 rfl rfl rfl (Nat.le_of_ble_eq_true rfl) ?_
  refine wset fun F0 hF0 => ?_
  refine wseq ?_
  refine wregion ?_
  refine RL.val rfl rfl (by decide) (r_assign_as (v := (.bool (false))) rfl) ?_
  refine RL.nil ?_
  refine wseq ?_
  refine wseq ?_
  refine wregion ?_
  refine RL.val rfl rfl (by decide) (r_move_as (v := vx) (hF0 0)) ?_
  obtain ⟨A1, c2, hv3, hc4, hc5⟩ := hx.len
  refine RL.val rfl rfl (by decide) (r_len Try.underlying38 hv3) ?_
  refine RL.val rfl rfl (by decide) (r_move_as (v := vy) (hF0 1)) ?_
  obtain ⟨A6, c7, hv8, hc9, hc10⟩ := hy.len
  refine RL.val rfl rfl (by decide) (r_len Try.underlying38 hv8) ?_
  refine RL.val rfl rfl (by decide) (r_neq (k := .i64) (a := ((x.length : Nat) : Int)) (b := ((y.length : Nat) : Int)) rfl rfl) ?_
  refine RL.nil ?_
  refine wcond (b := decide (((x.length : Nat) : Int) ≠ ((y.length : Nat) : Int))) rfl (fun hb11 => ?_) (fun hb11 => ?_)
  · have hb11p := hb11
    replace hb11p := of_decide_eq_true hb11p
    refine wseq ?_
    refine wregion ?_
    refine RL.val rfl rfl (by decide) (r_assign_as (v := (.bool (false))) rfl) ?_
    refine RL.nil ?_
    refine wret ?_
    refine ⟨[(.bool (false))], ⟨rfl, trivial⟩, ?_⟩
    exact ⟨bool_eq (decide_eq_false (fun h => by subst h; omega)).symm, hE⟩
  · have hb11p := hb11
    replace hb11p := of_decide_eq_false hb11p
    refine wskip ?_
    refine wseq ?_
    refine wseq ?_
    refine wregion ?_
    refine RL.val rfl rfl (by decide) (r_assign_as (v := (.int .i64 (0))) rfl) ?_
    refine RL.nil ?_
    refine wblock ?_
    refine wset fun F12 hF13 => ?_
    refine wloop (σ := Nat) (fun (k : Nat) fl wl => Off [4, 5, 11, 12, 13, 14, 15, 16, 17, 18, 19, 20, 21, 22, 23, 24, 25] F12 fl ∧ fl 5 = (.int .i64 (((k : Nat) : Int))) ∧ (k ≤ x.length) ∧ (∀ j, j < k → x.getD j default = y.getD j default) ∧ (Sg (gN .u32) Dx wl vx x) ∧ (Sg (gN .u32) Dy wl vy y) ∧ (Below w.heap.size w wl) ∧ (w.heap.size ≤ wl.heap.size)) (fun (k : Nat) => x.length - k) (0) ?_ ?_
    · exact ⟨Off.refl _ _, (hF13 5).trans (rfl), Nat.zero_le _, (fun j hj => absurd hj (Nat.not_lt_zero _)), hx, hy, hE, Nat.le_refl _⟩
    · clear hx hy hE
      rintro k f15 w16 ⟨hoff17, hs18, hk, heq, hx, hy, hE, hz14⟩
      refine wseq ?_
      refine wseq ?_
      refine wregion ?_
      refine RL.val rfl rfl (by decide) (r_move_as (v := (.int .i64 (((k : Nat) : Int)))) hs18) ?_
      refine RL.val rfl rfl (by decide) (r_move_as (v := vx) ((hoff17 0 rfl).trans ((hF13 0).trans (hF0 0)))) ?_
      refine RL.val rfl rfl (by decide) (r_len Try.underlying38 hv3) ?_
      refine RL.val rfl rfl (by decide) (r_lss (k := .i64) (a := ((k : Nat) : Int)) (b := ((x.length : Nat) : Int)) rfl rfl) ?_
      refine RL.nil ?_
      refine wcond (b := decide (((k : Nat) : Int) < ((x.length : Nat) : Int))) rfl (fun hb19 => ?_) (fun hb19 => ?_)
      · have hb19p := hb19
        replace hb19p := of_decide_eq_true hb19p
        refine wskip ?_
        refine wseq ?_
        refine wblock ?_
        refine wseq ?_
        refine wdraw mixed fun w20 he21 => ?_
        have he21z := he21.size
        replace hx := hx.tr (Sm.ext he21)
        replace hy := hy.tr (Sm.ext he21)
        replace hE := Below.ext hE (by omega) he21
        refine RA.take 0 rfl (by kernel_rfl) rfl rfl (by decide) (fun _ => r_move_as (v := vx) ((hoff17 0 rfl).trans ((hF13 0).trans (hF0 0)))) ?_
        refine RA.take 1 rfl (by kernel_rfl) rfl rfl (by decide) (fun _ => r_move_as (v := (.int .i64 (((k : Nat) : Int)))) hs18) ?_
        obtain ⟨b22, o23, c24, hv25, hc26⟩ := hx.ix (i := ((k : Nat) : Int)) (k) (by omega) (by omega)
        refine RA.take 2 rfl (by kernel_rfl) rfl rfl (by decide) (fun _ => r_indexAddr (i := ((k : Nat) : Int)) Try.underlying38 ty52 hv25 rfl (by omega) (by omega)) ?_
        refine RA.rd 3 rfl (by kernel_rfl) rfl rfl rfl (by decide) (Ext.refl _) (fun u hu => r_load (v := (.int .u32 (((x.getD (k) default : Nat) : Int)))) Try.underlying52 ag52 rfl (cell_ext hu hc26)) ?_
        refine RA.take 4 rfl (by kernel_rfl) rfl rfl (by decide) (fun _ => r_move_as (v := vy) ((hoff17 1 rfl).trans ((hF13 1).trans (hF0 1)))) ?_
        refine RA.take 5 rfl (by kernel_rfl) rfl rfl (by decide) (fun _ => r_move_as (v := (.int .i64 (((k : Nat) : Int)))) hs18) ?_
        obtain ⟨b27, o28, c29, hv30, hc31⟩ := hy.ix (i := ((k : Nat) : Int)) (k) (by omega) (by omega)
        refine RA.take 6 rfl (by kernel_rfl) rfl rfl (by decide) (fun _ => r_indexAddr (i := ((k : Nat) : Int)) Try.underlying38 ty52 hv30 rfl (by omega) (by omega)) ?_
        refine RA.rd 7 rfl (by kernel_rfl) rfl rfl rfl (by decide) (Ext.refl _) (fun u hu => r_load (v := (.int .u32 (((y.getD (k) default : Nat) : Int)))) Try.underlying52 ag52 rfl (cell_ext hu hc31)) ?_
        refine RA.take 8 rfl (by kernel_rfl) rfl rfl (by decide) (fun _ => r_neq (k := .u32) (a := ((x.getD (k) default : Nat) : Int)) (b := ((y.getD (k) default : Nat) : Int)) rfl rfl) ?_
        refine RA.done (by kernel_rfl) ?_
        refine wcond (b := decide (((x.getD (k) default : Nat) : Int) ≠ ((y.getD (k) default : Nat) : Int))) rfl (fun hb32 => ?_) (fun hb32 => ?_)
        · have hb32p := hb32
          replace hb32p := of_decide_eq_true hb32p
          refine wseq ?_
          refine wregion ?_
          refine RL.val rfl rfl (by decide) (r_assign_as (v := (.bool (false))) rfl) ?_
          refine RL.nil ?_
          refine wret ?_
          refine ⟨[(.bool (false))], ⟨rfl, trivial⟩, ?_⟩
          exact ⟨bool_eq (decide_eq_false (fun h => by subst h; omega)).symm, hE⟩
        · have hb32p := hb32
          replace hb32p := of_decide_eq_false hb32p
          refine wskip ?_
          refine wregion ?_
          refine RL.val rfl rfl (by decide) (r_move_as (v := (.int .i64 (((k : Nat) : Int)))) hs18) ?_
          refine RL.val rfl rfl (by decide) (r_add (k := .i64) (a := ((k : Nat) : Int)) (b := 1) (c := ((k : Nat) : Int) + 1) rfl rfl (wi64 (by omega))) ?_
          refine RL.val rfl rfl (by decide) (r_assign_as (v := (.int .i64 (((k : Nat) : Int) + 1))) rfl) ?_
          refine RL.nil ?_
          refine ⟨(k + 1), ⟨?_, ?_, ?_, ?_, ?_, ?_, ?_, ?_⟩, ?_⟩
          · exact (by repeat (first | exact hoff17 | refine Off.st ?_ (by decide) _))
          · first | rfl | exact int_eq (by omega) | exact bool_eq (by simp)
          · omega
          · intro j hj; rcases Nat.lt_or_eq_of_le (Nat.le_of_lt_succ hj) with h | rfl; exact heq j h; omega
          · exact hx
          · exact hy
          · exact hE
          · omega
          · (try dsimp only)
            omega
      · have hb19p := hb19
        replace hb19p := of_decide_eq_false hb19p
        refine wexit ?_
        refine wseq ?_
        refine wregion ?_
        refine RL.val rfl rfl (by decide) (r_assign_as (v := (.bool (true))) rfl) ?_
        refine RL.nil ?_
        refine wret ?_
        refine ⟨[(.bool (true))], ⟨rfl, trivial⟩, ?_⟩
        exact ⟨bool_eq (decide_eq_true (getD_ext (by omega) (fun j hj => heq j (by omega)))).symm, hE⟩

set_option maxHeartbeats 1000000 in
theorem r01_from {w : World} {x : Nat} (hx : x < 18446744073709551616) :
    Calls Try.prog 47 #[(.int .u64 (((x : Nat) : Int)))] w fun e w' => ∃ v, e = .returned v ∧ Sg (gN .u32) (fun b T => w.heap.size ≤ b ∧ T = 52) w' v (digs (x)) ∧ Ext w w' := by
  have hE : Below w.heap.size w w := Below.refl _ _
  refine calls_of (n := 10) (rs := [.tmp 2]) Try.func47 rfl rfl rfl (Nat.le_of_ble_eq_true rfl) ?_
  refine wset fun F0 hF0 => ?_
  refine wseq ?_
  refine wregion ?_
  refine RL.val rfl rfl (by decide) (r_assign_as (v := (.slice none (0) (0))) rfl) ?_
  refine RL.nil ?_
  refine wseq ?_
  refine wregion ?_
  refine RL.val rfl rfl (by decide) (r_move_as (v := (.int .u64 (((x : Nat) : Int)))) (hF0 0)) ?_
  refine RL.val rfl rfl (by decide) (r_conv (k := .u32) (a := ((x : Nat) : Int)) (c := ((x % 4294967296 : Nat) : Int)) Try.underlying33 Try.underlying52 rfl (cu32 _)) ?_
  refine RL.val rfl rfl (by decide) (r_move_as (v := (.int .u64 (((x : Nat) : Int)))) (hF0 0)) ?_
  refine RL.val rfl rfl (by decide) (r_shr (k := .u64) (a := ((x : Nat) : Int)) (b := 32) (c := ((x / 4294967296 : Nat) : Int)) rfl rfl (by decide) (shr32 _)) ?_
  refine RL.val rfl rfl (by decide) (r_conv (k := .u32) (a := ((x / 4294967296 : Nat) : Int)) (c := (((x / 4294967296) % 4294967296 : Nat) : Int)) Try.underlying33 Try.underlying52 rfl (cu32 _)) ?_
  refine RL.run rfl rfl (by decide) (h_lit (vl := [(0, (.int .u32 (((x % 4294967296 : Nat) : Int)))), (1, (.int .u32 ((((x / 4294967296) % 4294967296 : Nat) : Int))))]) (cs := [(.int .u32 (((x % 4294967296 : Nat) : Int))), (.int .u32 ((((x / 4294967296) % 4294967296 : Nat) : Int)))]) Try.underlying38 ty52 rfl (by decide) (by first | (simp [Instr.fill, Value.cells]; done) | rfl | kernel_rfl)) ?_
  rintro _ w1 ⟨b2, rfl, hs5, hb4, he3⟩
  have he3z := he3.size
  replace hE := Below.ext hE (by omega) he3
  have hb4l := hb4.lt
  have hlm := Lm.two hx
  refine RL.call rfl rfl (by decide) (r_call (vl := [(.slice (some ⟨b2, 0, none⟩) (2) (2))]) ent58 rfl) (r01_trim (hb4.sg (g := gN .u32) (D := fun _ _ => True) (xs := [x % 4294967296, (x / 4294967296) % 4294967296]) trivial rfl rfl (by decide)) (by first | assumption | (intro z hz; simp at hz; omega)) (by first | omega | simp)) ?_
  rintro vr8 w6 ⟨hr9, he7⟩
  have he7z := he7.size
  replace hE := Below.ext hE (by omega) he7
  replace hb4 := hb4.ext he7
  have hlt10 : (digs (val ([x % 4294967296, (x / 4294967296) % 4294967296]))).length ≤ ([x % 4294967296, (x / 4294967296) % 4294967296]).length := len_le_of (by first | assumption | (intro z hz; simp at hz; omega))
  refine RL.val rfl rfl (by decide) (r_assign_as (v := vr8) rfl) ?_
  refine RL.nil ?_
  refine wret ?_
  refine ⟨[vr8], ⟨rfl, trivial⟩, ?_⟩
  have hres := hr9
  rw [Nat.mod_eq_of_lt (show x / 4294967296 < 4294967296 by omega), val_two] at hres
  exact ⟨hres.mono (fun b T h => by first | exact ⟨by have := h.1; omega, h.2⟩ | exact ⟨by have := h.1; omega, h.2.1⟩ | exact ⟨by have := h.1; omega, h.2, by have := h.1; omega⟩ | exact ⟨by have := h.1; omega, h.2.1, by have := h.1; omega⟩ | exact ⟨by have := h.1; omega, h.2.1, h.2.2⟩), hE⟩

set_option maxHeartbeats 1000000 in
theorem r01_uint {w : World} {Dx : Nat → TypeId → Prop} {vx : Value} {x : List Nat} (hx : Sg (gN .u32) Dx w vx x) (lmx : Lm x) (lnx : x.length ≤ 1099511627776) :
    Calls Try.prog 50 #[vx] w fun e w' => ∃ v, e = .returned v ∧ v = .tuple #[.int .u64 ((if val x < 18446744073709551616 then val x else 0 : Nat) : Int), .bool (decide (val x < 18446744073709551616))] ∧ Ext w w' := by
  have hE : Below w.heap.size w w := Below.refl _ _
  refine calls_of (n := 27) (rs := [.tmp 2, .tmp 3]) Try.func50 rfl rfl rfl (Nat.le_of_ble_eq_true rfl) ?_
  refine wset fun F0 hF0 => ?_
  refine wseq ?_
  refine wregion ?_
  refine RL.val rfl rfl (by decide) (r_assign_as (v := (.int .u64 (0))) rfl) ?_
  refine RL.val rfl rfl (by decide) (r_assign_as (v := (.bool (false))) rfl) ?_
  refine RL.nil ?_
  refine wseq ?_
  refine wregion ?_
  refine RL.val rfl rfl (by decide) (r_move_as (v := vx) (hF0 0)) ?_
  refine RL.call rfl rfl (by decide) (r_call (vl := [vx]) ent58 rfl) (r01_trim hx (by assumption) (by first | omega | simp)) ?_
  rintro vr3 w1 ⟨hr4, he2⟩
  have he2z := he2.size
  replace hx := hx.tr (Sm.ext he2)
  replace hE := Below.ext hE (by omega) he2
  have hlt5 : (digs (val x)).length ≤ x.length := len_le_of (by assumption)
  refine RL.val rfl rfl (by decide) (r_assign_as (v := vr3) rfl) ?_
  refine RL.nil ?_
  refine wseq ?_
  refine wseq ?_
  have hl64 := len_u64 (n := val x)
  rw [← len_digs] at hl64
  refine wregion ?_
  refine RL.val rfl rfl (by decide) (r_move_as (v := vr3) rfl) ?_
  obtain ⟨A6, c7, hv8, hc9, hc10⟩ := hr4.len
  refine RL.val rfl rfl (by decide) (r_len Try.underlying38 hv8) ?_
  refine RL.val rfl rfl (by decide) (r_gtr (k := .i64) (a := (((digs (val x)).length : Nat) : Int)) (b := 2) rfl rfl) ?_
  refine RL.nil ?_
  refine wcond (b := decide (2 < (((digs (val x)).length : Nat) : Int))) rfl (fun hb11 => ?_) (fun hb11 => ?_)
  · have hb11p := hb11
    replace hb11p := of_decide_eq_true hb11p
    refine wseq ?_
    refine wregion ?_
    refine RL.val rfl rfl (by decide) (r_assign_as (v := (.int .u64 (0))) rfl) ?_
    refine RL.val rfl rfl (by decide) (r_assign_as (v := (.bool (false))) rfl) ?_
    refine RL.nil ?_
    refine wret ?_
    refine ⟨[(.int .u64 (0)), (.bool (false))], ⟨rfl, ⟨rfl, trivial⟩⟩, ?_⟩
    exact ⟨by rw [if_neg (by omega), decide_eq_false (by omega)]; rfl, hE⟩
  · have hb11p := hb11
    replace hb11p := of_decide_eq_false hb11p
    refine wskip ?_
    refine wseq ?_
    refine wregion ?_
    refine RL.val rfl rfl (by decide) (r_assign_as (v := (.int .u64 (0))) rfl) ?_
    refine RL.nil ?_
    refine wseq ?_
    refine wseq ?_
    refine wregion ?_
    refine RL.val rfl rfl (by decide) (r_move_as (v := vr3) rfl) ?_
    refine RL.val rfl rfl (by decide) (r_len Try.underlying38 hv8) ?_
    refine RL.val rfl rfl (by decide) (r_sub (k := .i64) (a := (((digs (val x)).length : Nat) : Int)) (b := 1) (c := (((digs (val x)).length : Nat) : Int) - 1) rfl rfl (wi64 (by omega))) ?_
    refine RL.val rfl rfl (by decide) (r_assign_as (v := (.int .i64 ((((digs (val x)).length : Nat) : Int) - 1))) rfl) ?_
    refine RL.nil ?_
    refine wblock ?_
    refine wset fun F12 hF13 => ?_
    refine wloop (σ := Nat) (fun (n : Nat) fl wl => Off [4, 5, 14, 15, 16, 17, 18, 19, 20, 21, 22, 23, 24, 25] F12 fl ∧ fl 5 = (.int .i64 (((n : Nat) : Int) - 1)) ∧ fl 4 = (.int .u64 (((val ((digs (val x)).drop n) : Nat) : Int))) ∧ (n ≤ (digs (val x)).length) ∧ (Sg (gN .u32) (fun b T => w.heap.size ≤ b ∧ T = 52) wl vr3 (digs (val x))) ∧ (Below w.heap.size w wl) ∧ (w1.heap.size ≤ wl.heap.size)) (fun (n : Nat) => n) ((digs (val x)).length) ?_ ?_
    · exact ⟨Off.refl _ _, (hF13 5).trans (rfl), (hF13 4).trans ((int_eq (by rw [List.drop_of_length_le (Nat.le_refl _)]; rfl))), Nat.le_refl _, hr4, hE, Nat.le_refl _⟩
    · clear hx hE hr4
      rintro n f15 w16 ⟨hoff17, hs18, hs19, hn, hr4, hE, hz14⟩
      refine wseq ?_
      refine wseq ?_
      refine wregion ?_
      refine RL.val rfl rfl (by decide) (r_move_as (v := (.int .i64 (((n : Nat) : Int) - 1))) hs18) ?_
      refine RL.val rfl rfl (by decide) (r_geq (k := .i64) (a := ((n : Nat) : Int) - 1) (b := 0) rfl rfl) ?_
      refine RL.nil ?_
      refine wcond (b := decide (0 ≤ (((n : Nat) : Int) - 1))) rfl (fun hb20 => ?_) (fun hb20 => ?_)
      · have hb20p := hb20
        replace hb20p := of_decide_eq_true hb20p
        refine wskip ?_
        refine wseq ?_
        refine wblock ?_
        have hdl : val ((digs (val x)).drop n) < 4294967296 := by have h1 := val_lt ((digs_lm (val x)).drop n); have h2 : 4294967296 ^ ((digs (val x)).drop n).length ≤ 4294967296 ^ 1 := Nat.pow_le_pow_right (by decide) (by rw [List.length_drop]; omega); omega
        refine wregion ?_
        refine RL.val rfl rfl (by decide) (r_move_as (v := (.int .u64 (((val ((digs (val x)).drop n) : Nat) : Int)))) hs19) ?_
        refine RL.val rfl rfl (by decide) (r_shl (k := .u64) (a := ((val ((digs (val x)).drop n) : Nat) : Int)) (b := 32) (c := ((val ((digs (val x)).drop n) * 4294967296 : Nat) : Int)) rfl rfl (by decide) (shl32 hdl)) ?_
        refine RL.val rfl rfl (by decide) (r_move_as (v := vr3) ((hoff17 0 rfl).trans (hF13 0))) ?_
        refine RL.val rfl rfl (by decide) (r_move_as (v := (.int .i64 (((n : Nat) : Int) - 1))) hs18) ?_
        obtain ⟨b21, o22, c23, hv24, hc25⟩ := hr4.ix (i := ((n : Nat) : Int) - 1) (n - 1) (by omega) (by omega)
        refine RL.val rfl rfl (by decide) (r_indexAddr (i := ((n : Nat) : Int) - 1) Try.underlying38 ty52 hv24 rfl (by omega) (by omega)) ?_
        refine RL.val rfl rfl (by decide) (r_load (v := (.int .u32 ((((digs (val x)).getD (n - 1) default : Nat) : Int)))) Try.underlying52 ag52 rfl hc25) ?_
        refine RL.val rfl rfl (by decide) (r_conv (k := .u64) (a := (((digs (val x)).getD (n - 1) default : Nat) : Int)) (c := (((digs (val x)).getD (n - 1) default : Nat) : Int)) Try.underlying52 Try.underlying33 rfl (wu64 (by have := (digs_lm (val x)).at (show n - 1 < _ by omega); omega))) ?_
        refine RL.val rfl rfl (by decide) (r_or (k := .u64) (a := ((val ((digs (val x)).drop n) * 4294967296 : Nat) : Int)) (b := (((digs (val x)).getD (n - 1) default : Nat) : Int)) (c := ((val ((digs (val x)).drop n) * 4294967296 + (digs (val x)).getD (n - 1) default : Nat) : Int)) rfl rfl (or32 hdl ((digs_lm (val x)).at (by omega)))) ?_
        refine RL.val rfl rfl (by decide) (r_assign_as (v := (.int .u64 (((val ((digs (val x)).drop n) * 4294967296 + (digs (val x)).getD (n - 1) default : Nat) : Int)))) rfl) ?_
        refine RL.nil ?_
        refine wregion ?_
        refine RL.val rfl rfl (by decide) (r_move_as (v := (.int .i64 (((n : Nat) : Int) - 1))) hs18) ?_
        refine RL.val rfl rfl (by decide) (r_sub (k := .i64) (a := ((n : Nat) : Int) - 1) (b := 1) (c := (((n : Nat) : Int) - 1) - 1) rfl rfl (wi64 (by omega))) ?_
        refine RL.val rfl rfl (by decide) (r_assign_as (v := (.int .i64 ((((n : Nat) : Int) - 1) - 1))) rfl) ?_
        refine RL.nil ?_
        refine ⟨(n - 1), ⟨?_, ?_, ?_, ?_, ?_, ?_, ?_⟩, ?_⟩
        · exact (by repeat (first | exact hoff17 | refine Off.st ?_ (by decide) _))
        · first | rfl | exact int_eq (by omega) | exact bool_eq (by simp)
        · exact int_eq (by rw [val_drop_cons (by omega) hn]; omega)
        · omega
        · exact hr4
        · exact hE
        · omega
        · (try dsimp only)
          omega
      · have hb20p := hb20
        replace hb20p := of_decide_eq_false hb20p
        refine wexit ?_
        refine wseq ?_
        refine wregion ?_
        refine RL.val rfl rfl (by decide) (r_move_as (v := (.int .u64 (((val ((digs (val x)).drop n) : Nat) : Int)))) hs19) ?_
        refine RL.val rfl rfl (by decide) (r_assign_as (v := (.int .u64 (((val ((digs (val x)).drop n) : Nat) : Int)))) rfl) ?_
        refine RL.val rfl rfl (by decide) (r_assign_as (v := (.bool (true))) rfl) ?_
        refine RL.nil ?_
        refine wret ?_
        refine ⟨[(.int .u64 (((val ((digs (val x)).drop n) : Nat) : Int))), (.bool (true))], ⟨rfl, ⟨rfl, trivial⟩⟩, ?_⟩
        have hn0 : n = 0 := by omega
        subst hn0
        exact ⟨by rw [if_pos (by omega), decide_eq_true (by omega), List.drop_zero, val_digs]; rfl, hE⟩

set_option maxHeartbeats 1000000 in
theorem r01_compare {w : World} {Dx : Nat → TypeId → Prop} {vx : Value} {x : List Nat} (hx : Sg (gN .u32) Dx w vx x) (lmx : Lm x) (lnx : x.length ≤ 1099511627776) {Dy : Nat → TypeId → Prop} {vy : Value} {y : List Nat} (hy : Sg (gN .u32) Dy w vy y) (lmy : Lm y) (lny : y.length ≤ 1099511627776) :
    Calls Try.prog 64 #[vx, vy] w fun e w' => ∃ v, e = .returned v ∧ v = .int .i64 (cmpI ((val x : Nat) : Int) ((val y : Nat) : Int)) ∧ Ext w w' := by
  have hE : Below w.heap.size w w := Below.refl _ _
  refine calls_of (n := 45) (rs := [.tmp 4]) Try.func64 rfl rfl rfl (Nat.le_of_ble_eq_true rfl) ?_
  refine wset fun F0 hF0 => ?_
  refine wseq ?_
  refine wregion ?_
  refine RL.val rfl rfl (by decide) (r_assign_as (v := (.int .i64 (0))) rfl) ?_
  refine RL.nil ?_
  refine wseq ?_
  refine wregion ?_
  refine RL.val rfl rfl (by decide) (r_move_as (v := vx) (hF0 0)) ?_
  refine RL.call rfl rfl (by decide) (r_call (vl := [vx]) ent58 rfl) (r01_trim hx (by assumption) (by first | omega | simp)) ?_
  rintro vr3 w1 ⟨hr4, he2⟩
  have he2z := he2.size
  replace hx := hx.tr (Sm.ext he2)
  replace hy := hy.tr (Sm.ext he2)
  replace hE := Below.ext hE (by omega) he2
  have hlt5 : (digs (val x)).length ≤ x.length := len_le_of (by assumption)
  refine RL.val rfl rfl (by decide) (r_move_as (v := vy) (hF0 1)) ?_
  refine RL.call rfl rfl (by decide) (r_call (vl := [vy]) ent58 rfl) (r01_trim hy (by assumption) (by first | omega | simp)) ?_
  rintro vr8 w6 ⟨hr9, he7⟩
  have he7z := he7.size
  replace hx := hx.tr (Sm.ext he7)
  replace hy := hy.tr (Sm.ext he7)
  replace hE := Below.ext hE (by omega) he7
  replace hr4 := hr4.tr (Sm.ext he7)
  have hlt10 : (digs (val y)).length ≤ y.length := len_le_of (by assumption)
  refine RL.val rfl rfl (by decide) (r_assign_as (v := vr3) rfl) ?_
  refine RL.val rfl rfl (by decide) (r_assign_as (v := vr8) rfl) ?_
  refine RL.nil ?_
  refine wseq ?_
  refine wseq ?_
  refine wregion ?_
  refine RL.val rfl rfl (by decide) (r_move_as (v := vr3) rfl) ?_
  obtain ⟨A11, c12, hv13, hc14, hc15⟩ := hr4.len
  refine RL.val rfl rfl (by decide) (r_len Try.underlying38 hv13) ?_
  refine RL.val rfl rfl (by decide) (r_move_as (v := vr8) rfl) ?_
  obtain ⟨A16, c17, hv18, hc19, hc20⟩ := hr9.len
  refine RL.val rfl rfl (by decide) (r_len Try.underlying38 hv18) ?_
  refine RL.val rfl rfl (by decide) (r_neq (k := .i64) (a := (((digs (val x)).length : Nat) : Int)) (b := (((digs (val y)).length : Nat) : Int)) rfl rfl) ?_
  refine RL.nil ?_
  refine wcond (b := decide ((((digs (val x)).length : Nat) : Int) ≠ (((digs (val y)).length : Nat) : Int))) rfl (fun hb21 => ?_) (fun hb21 => ?_)
  · have hb21p := hb21
    replace hb21p := of_decide_eq_true hb21p
    refine wseq ?_
    refine wseq ?_
    refine wregion ?_
    refine RL.val rfl rfl (by decide) (r_move_as (v := vr3) rfl) ?_
    refine RL.val rfl rfl (by decide) (r_len Try.underlying38 hv13) ?_
    refine RL.val rfl rfl (by decide) (r_move_as (v := vr8) rfl) ?_
    refine RL.val rfl rfl (by decide) (r_len Try.underlying38 hv18) ?_
    refine RL.val rfl rfl (by decide) (r_lss (k := .i64) (a := (((digs (val x)).length : Nat) : Int)) (b := (((digs (val y)).length : Nat) : Int)) rfl rfl) ?_
    refine RL.nil ?_
    refine wcond (b := decide ((((digs (val x)).length : Nat) : Int) < (((digs (val y)).length : Nat) : Int))) rfl (fun hb22 => ?_) (fun hb22 => ?_)
    · have hb22p := hb22
      replace hb22p := of_decide_eq_true hb22p
      refine wseq ?_
      refine wregion ?_
      refine RL.val rfl rfl (by decide) (r_assign_as (v := (.int .i64 (-1))) rfl) ?_
      refine RL.nil ?_
      refine wret ?_
      refine ⟨[(.int .i64 (-1))], ⟨rfl, trivial⟩, ?_⟩
      have hlt : val x < val y := by first | exact len_lt_of (by rw [← len_digs, ← len_digs]; omega) | (have h := cmp_at (a := digs (val x)) (b := digs (val y)) (m := n - 1) (digs_lm (val x)) (by omega) (by omega) (by rw [show n - 1 + 1 = n by omega]; exact hd) (by omega); rw [val_digs, val_digs] at h; exact h)
      exact ⟨int_eq (by unfold cmpI; rw [if_pos (by omega)]), hE⟩
    · have hb22p := hb22
      replace hb22p := of_decide_eq_false hb22p
      refine wskip ?_
      refine wseq ?_
      refine wregion ?_
      refine RL.val rfl rfl (by decide) (r_assign_as (v := (.int .i64 (1))) rfl) ?_
      refine RL.nil ?_
      refine wret ?_
      refine ⟨[(.int .i64 (1))], ⟨rfl, trivial⟩, ?_⟩
      have hlt : val y < val x := by first | exact len_lt_of (by rw [← len_digs, ← len_digs]; omega) | (have h := cmp_at (a := digs (val y)) (b := digs (val x)) (m := n - 1) (digs_lm (val y)) (by omega) (by omega) (by rw [show n - 1 + 1 = n by omega]; exact hd.symm) (by omega); rw [val_digs, val_digs] at h; exact h)
      exact ⟨int_eq (by unfold cmpI; rw [if_neg (by omega), if_pos (by omega)]), hE⟩
  · have hb21p := hb21
    replace hb21p := of_decide_eq_false hb21p
    refine wskip ?_
    refine wseq ?_
    refine wseq ?_
    refine wregion ?_
    refine RL.val rfl rfl (by decide) (r_move_as (v := vr3) rfl) ?_
    refine RL.val rfl rfl (by decide) (r_len Try.underlying38 hv13) ?_
    refine RL.val rfl rfl (by decide) (r_sub (k := .i64) (a := (((digs (val x)).length : Nat) : Int)) (b := 1) (c := (((digs (val x)).length : Nat) : Int) - 1) rfl rfl (wi64 (by omega))) ?_
    refine RL.val rfl rfl (by decide) (r_assign_as (v := (.int .i64 ((((digs (val x)).length : Nat) : Int) - 1))) rfl) ?_
    refine RL.nil ?_
    refine wblock ?_
    refine wset fun F23 hF24 => ?_
    refine wloop (σ := Nat) (fun (n : Nat) fl wl => Off [4, 5, 23, 24, 25, 26, 27, 28, 29, 30, 31, 32, 33, 34, 35, 36, 37, 38, 39, 40, 41, 42, 43, 44] F23 fl ∧ fl 5 = (.int .i64 (((n : Nat) : Int) - 1)) ∧ (n ≤ (digs (val x)).length) ∧ ((digs (val x)).drop n = (digs (val y)).drop n) ∧ (Sg (gN .u32) (fun b T => w.heap.size ≤ b ∧ T = 52) wl vr3 (digs (val x))) ∧ (Sg (gN .u32) (fun b T => w1.heap.size ≤ b ∧ T = 52) wl vr8 (digs (val y))) ∧ (Below w.heap.size w wl) ∧ (w6.heap.size ≤ wl.heap.size)) (fun (n : Nat) => n) ((digs (val x)).length) ?_ ?_
    · exact ⟨Off.refl _ _, (hF24 5).trans (rfl), Nat.le_refl _, (by rw [List.drop_of_length_le (Nat.le_refl _), List.drop_of_length_le (by omega)]), hr4, hr9, hE, Nat.le_refl _⟩
    · clear hx hy hE hr4 hr9
      rintro n f26 w27 ⟨hoff28, hs29, hn, hd, hr4, hr9, hE, hz25⟩
      refine wseq ?_
      refine wseq ?_
      refine wregion ?_
      refine RL.val rfl rfl (by decide) (r_move_as (v := (.int .i64 (((n : Nat) : Int) - 1))) hs29) ?_
      refine RL.val rfl rfl (by decide) (r_geq (k := .i64) (a := ((n : Nat) : Int) - 1) (b := 0) rfl rfl) ?_
      refine RL.nil ?_
      refine wcond (b := decide (0 ≤ (((n : Nat) : Int) - 1))) rfl (fun hb30 => ?_) (fun hb30 => ?_)
      · have hb30p := hb30
        replace hb30p := of_decide_eq_true hb30p
        refine wskip ?_
        refine wseq ?_
        refine wblock ?_
        refine wseq ?_
        refine wseq ?_
        refine wdraw mixed fun w31 he32 => ?_
        have he32z := he32.size
        replace hE := Below.ext hE (by omega) he32
        replace hr4 := hr4.tr (Sm.ext he32)
        replace hr9 := hr9.tr (Sm.ext he32)
        refine RA.take 0 rfl (by kernel_rfl) rfl rfl (by decide) (fun _ => r_move_as (v := vr3) ((hoff28 0 rfl).trans (hF24 0))) ?_
        refine RA.take 1 rfl (by kernel_rfl) rfl rfl (by decide) (fun _ => r_move_as (v := (.int .i64 (((n : Nat) : Int) - 1))) hs29) ?_
        obtain ⟨b33, o34, c35, hv36, hc37⟩ := hr4.ix (i := ((n : Nat) : Int) - 1) (n - 1) (by omega) (by omega)
        refine RA.take 2 rfl (by kernel_rfl) rfl rfl (by decide) (fun _ => r_indexAddr (i := ((n : Nat) : Int) - 1) Try.underlying38 ty52 hv36 rfl (by omega) (by omega)) ?_
        refine RA.rd 3 rfl (by kernel_rfl) rfl rfl rfl (by decide) (Ext.refl _) (fun u hu => r_load (v := (.int .u32 ((((digs (val x)).getD (n - 1) default : Nat) : Int)))) Try.underlying52 ag52 rfl (cell_ext hu hc37)) ?_
        refine RA.take 4 rfl (by kernel_rfl) rfl rfl (by decide) (fun _ => r_move_as (v := vr8) ((hoff28 1 rfl).trans (hF24 1))) ?_
        refine RA.take 5 rfl (by kernel_rfl) rfl rfl (by decide) (fun _ => r_move_as (v := (.int .i64 (((n : Nat) : Int) - 1))) hs29) ?_
        obtain ⟨b38, o39, c40, hv41, hc42⟩ := hr9.ix (i := ((n : Nat) : Int) - 1) (n - 1) (by omega) (by omega)
        refine RA.take 6 rfl (by kernel_rfl) rfl rfl (by decide) (fun _ => r_indexAddr (i := ((n : Nat) : Int) - 1) Try.underlying38 ty52 hv41 rfl (by omega) (by omega)) ?_
        refine RA.rd 7 rfl (by kernel_rfl) rfl rfl rfl (by decide) (Ext.refl _) (fun u hu => r_load (v := (.int .u32 ((((digs (val y)).getD (n - 1) default : Nat) : Int)))) Try.underlying52 ag52 rfl (cell_ext hu hc42)) ?_
        refine RA.take 8 rfl (by kernel_rfl) rfl rfl (by decide) (fun _ => r_lss (k := .u32) (a := (((digs (val x)).getD (n - 1) default : Nat) : Int)) (b := (((digs (val y)).getD (n - 1) default : Nat) : Int)) rfl rfl) ?_
        refine RA.done (by kernel_rfl) ?_
        refine wcond (b := decide ((((digs (val x)).getD (n - 1) default : Nat) : Int) < (((digs (val y)).getD (n - 1) default : Nat) : Int))) rfl (fun hb43 => ?_) (fun hb43 => ?_)
        · have hb43p := hb43
          replace hb43p := of_decide_eq_true hb43p
          refine wseq ?_
          refine wregion ?_
          refine RL.val rfl rfl (by decide) (r_assign_as (v := (.int .i64 (-1))) rfl) ?_
          refine RL.nil ?_
          refine wret ?_
          refine ⟨[(.int .i64 (-1))], ⟨rfl, trivial⟩, ?_⟩
          have hlt : val x < val y := by first | exact len_lt_of (by rw [← len_digs, ← len_digs]; omega) | (have h := cmp_at (a := digs (val x)) (b := digs (val y)) (m := n - 1) (digs_lm (val x)) (by omega) (by omega) (by rw [show n - 1 + 1 = n by omega]; exact hd) (by omega); rw [val_digs, val_digs] at h; exact h)
          exact ⟨int_eq (by unfold cmpI; rw [if_pos (by omega)]), hE⟩
        · have hb43p := hb43
          replace hb43p := of_decide_eq_false hb43p
          refine wskip ?_
          refine wseq ?_
          refine wdraw mixed fun w44 he45 => ?_
          have he45z := he45.size
          replace hE := Below.ext hE (by omega) he45
          replace hr4 := hr4.tr (Sm.ext he45)
          replace hr9 := hr9.tr (Sm.ext he45)
          refine RA.take 0 rfl (by kernel_rfl) rfl rfl (by decide) (fun _ => r_move_as (v := vr3) ((hoff28 0 rfl).trans (hF24 0))) ?_
          refine RA.take 1 rfl (by kernel_rfl) rfl rfl (by decide) (fun _ => r_move_as (v := (.int .i64 (((n : Nat) : Int) - 1))) hs29) ?_
          obtain ⟨b46, o47, c48, hv49, hc50⟩ := hr4.ix (i := ((n : Nat) : Int) - 1) (n - 1) (by omega) (by omega)
          refine RA.take 2 rfl (by kernel_rfl) rfl rfl (by decide) (fun _ => r_indexAddr (i := ((n : Nat) : Int) - 1) Try.underlying38 ty52 hv49 rfl (by omega) (by omega)) ?_
          refine RA.rd 3 rfl (by kernel_rfl) rfl rfl rfl (by decide) (Ext.refl _) (fun u hu => r_load (v := (.int .u32 ((((digs (val x)).getD (n - 1) default : Nat) : Int)))) Try.underlying52 ag52 rfl (cell_ext hu hc50)) ?_
          refine RA.take 4 rfl (by kernel_rfl) rfl rfl (by decide) (fun _ => r_move_as (v := vr8) ((hoff28 1 rfl).trans (hF24 1))) ?_
          refine RA.take 5 rfl (by kernel_rfl) rfl rfl (by decide) (fun _ => r_move_as (v := (.int .i64 (((n : Nat) : Int) - 1))) hs29) ?_
          obtain ⟨b51, o52, c53, hv54, hc55⟩ := hr9.ix (i := ((n : Nat) : Int) - 1) (n - 1) (by omega) (by omega)
          refine RA.take 6 rfl (by kernel_rfl) rfl rfl (by decide) (fun _ => r_indexAddr (i := ((n : Nat) : Int) - 1) Try.underlying38 ty52 hv54 rfl (by omega) (by omega)) ?_
          refine RA.rd 7 rfl (by kernel_rfl) rfl rfl rfl (by decide) (Ext.refl _) (fun u hu => r_load (v := (.int .u32 ((((digs (val y)).getD (n - 1) default : Nat) : Int)))) Try.underlying52 ag52 rfl (cell_ext hu hc55)) ?_
          refine RA.take 8 rfl (by kernel_rfl) rfl rfl (by decide) (fun _ => r_gtr (k := .u32) (a := (((digs (val x)).getD (n - 1) default : Nat) : Int)) (b := (((digs (val y)).getD (n - 1) default : Nat) : Int)) rfl rfl) ?_
          refine RA.done (by kernel_rfl) ?_
          refine wcond (b := decide ((((digs (val y)).getD (n - 1) default : Nat) : Int) < (((digs (val x)).getD (n - 1) default : Nat) : Int))) rfl (fun hb56 => ?_) (fun hb56 => ?_)
          · have hb56p := hb56
            replace hb56p := of_decide_eq_true hb56p
            refine wseq ?_
            refine wregion ?_
            refine RL.val rfl rfl (by decide) (r_assign_as (v := (.int .i64 (1))) rfl) ?_
            refine RL.nil ?_
            refine wret ?_
            refine ⟨[(.int .i64 (1))], ⟨rfl, trivial⟩, ?_⟩
            have hlt : val y < val x := by first | exact len_lt_of (by rw [← len_digs, ← len_digs]; omega) | (have h := cmp_at (a := digs (val y)) (b := digs (val x)) (m := n - 1) (digs_lm (val y)) (by omega) (by omega) (by rw [show n - 1 + 1 = n by omega]; exact hd.symm) (by omega); rw [val_digs, val_digs] at h; exact h)
            exact ⟨int_eq (by unfold cmpI; rw [if_neg (by omega), if_pos (by omega)]), hE⟩
          · have hb56p := hb56
            replace hb56p := of_decide_eq_false hb56p
            refine wskip ?_
            refine wregion ?_
            refine RL.val rfl rfl (by decide) (r_move_as (v := (.int .i64 (((n : Nat) : Int) - 1))) hs29) ?_
            refine RL.val rfl rfl (by decide) (r_sub (k := .i64) (a := ((n : Nat) : Int) - 1) (b := 1) (c := (((n : Nat) : Int) - 1) - 1) rfl rfl (wi64 (by omega))) ?_
            refine RL.val rfl rfl (by decide) (r_assign_as (v := (.int .i64 ((((n : Nat) : Int) - 1) - 1))) rfl) ?_
            refine RL.nil ?_
            refine ⟨(n - 1), ⟨?_, ?_, ?_, ?_, ?_, ?_, ?_, ?_⟩, ?_⟩
            · exact (by repeat (first | exact hoff28 | refine Off.st ?_ (by decide) _))
            · first | rfl | exact int_eq (by omega) | exact bool_eq (by simp)
            · omega
            · exact drop_step (by omega) hn (by omega) hd (by omega)
            · exact hr4
            · exact hr9
            · exact hE
            · omega
            · (try dsimp only)
              omega
      · have hb30p := hb30
        replace hb30p := of_decide_eq_false hb30p
        refine wexit ?_
        refine wseq ?_
        refine wregion ?_
        refine RL.val rfl rfl (by decide) (r_assign_as (v := (.int .i64 (0))) rfl) ?_
        refine RL.nil ?_
        refine wret ?_
        refine ⟨[(.int .i64 (0))], ⟨rfl, trivial⟩, ?_⟩
        have hn0 : n = 0 := by omega
        subst hn0
        rw [List.drop_zero, List.drop_zero] at hd
        have h := congrArg val hd
        rw [val_digs, val_digs] at h
        exact ⟨int_eq (by unfold cmpI; rw [if_neg (by omega), if_neg (by omega)]), hE⟩

end Go.Proofs.Ytppgppnkhpjlpaa
