/- Walks, printed by program. -/
import Derived.Test.YtppgppnkhpjlpaaRe
import Derived.Test.YtppgppnkhpjlpaaRc
import Derived.Test.YtppgppnkhpjlpaaMsel
import Derived.Test.YtppgppnkhpjlpaaVgl
namespace Go.Proofs.Ytppgppnkhpjlpaa
open Go.Vg Go.RowKit
set_option linter.unusedVariables false

open Go.Vm
set_option maxHeartbeats 1000000 in
theorem r01_gcd {w : World} {Dx : Nat → TypeId → Prop} {vx : Value} {x : List Nat} (hx : Sg (gN .u32) Dx w vx x) (lmx : Lm x) (lnx : x.length ≤ 549755813888) {Dy : Nat → TypeId → Prop} {vy : Value} {y : List Nat} (hy : Sg (gN .u32) Dy w vy y) (lmy : Lm y) (lny : y.length ≤ 549755813888) :
    Calls Try.prog 53 #[vx, vy] w fun e w' => ∃ v, e = .returned v ∧ Sg (gN .u32) (fun b T => w.heap.size ≤ b ∧ T = 52) w' v (digs (Nat.gcd (val x) (val y))) ∧ Ext w w' := by
  have hE : Below w.heap.size w w := Below.refl _ _
  refine calls_of (n := 25) (rs := [.tmp 4]) Try.func53 rfl rfl rfl (Nat.le_of_ble_eq_true rfl) ?_
  refine wset fun F0 hF0 => ?_
  refine wseq ?_
  refine wregion ?_
  refine RL.val rfl rfl (by decide) (r_assign_as (v := (.slice none (0) (0))) rfl) ?_
  refine RL.nil ?_
  refine wseq ?_
  refine wregion ?_
  refine RL.val rfl rfl (by decide) (r_move_as (v := vx) (hF0 0)) ?_
  refine RL.call rfl rfl (by decide) (r_call (vl := [vx]) ent58 rfl) (r01_trim hx (by assumption) (by first | omega | simp)) ?_
  rintro vr3 w1 ⟨hr4, he2⟩
  have he2z := he2.size
  replace hx := hx.tr (Sm.ext he2)
  replace hy := hy.tr (Sm.ext he2)
  replace hE := Below.ext hE (by omega) he2
  have hlt5 : (digs (val x)).length ≤ x.length := len_le_of (by assumption)
  refine RL.val rfl rfl (by decide) (r_move_as (v := vy) (hF0 1)) ?_
  refine RL.call rfl rfl (by decide) (r_call (vl := [vy]) ent58 rfl) (r01_trim hy (by assumption) (by first | omega | simp)) ?_
  rintro vr8 w6 ⟨hr9, he7⟩
  have he7z := he7.size
  replace hx := hx.tr (Sm.ext he7)
  replace hy := hy.tr (Sm.ext he7)
  replace hE := Below.ext hE (by omega) he7
  replace hr4 := hr4.tr (Sm.ext he7)
  have hlt10 : (digs (val y)).length ≤ y.length := len_le_of (by assumption)
  refine RL.val rfl rfl (by decide) (r_assign_as (v := vr3) rfl) ?_
  refine RL.val rfl rfl (by decide) (r_assign_as (v := vr8) rfl) ?_
  refine RL.nil ?_
  refine wseq ?_
  refine wblock ?_
  refine wset fun F11 hF12 => ?_
  refine wloop (σ := Nat × Nat × Value × Value) (fun (s : Nat × Nat × Value × Value) fl wl => match s with | (a, b, va, vb) => Off [0, 1, 5, 6, 7, 12, 13, 14, 15, 16, 17, 18, 19, 20, 21, 22, 23] F11 fl ∧ fl 0 = va ∧ fl 1 = vb ∧ (Nat.gcd a b = Nat.gcd (val x) (val y)) ∧ ((digs a).length ≤ 549755813888) ∧ ((digs b).length ≤ 549755813888) ∧ (Sg (gN .u32) (fun b T => w.heap.size ≤ b ∧ T = 52) wl va (digs a)) ∧ (Sg (gN .u32) (fun b T => w.heap.size ≤ b ∧ T = 52) wl vb (digs b)) ∧ (Below w.heap.size w wl) ∧ (w6.heap.size ≤ wl.heap.size)) (fun (s : Nat × Nat × Value × Value) => match s with | (a, b, va, vb) => b) (val x, val y, vr3, vr8) ?_ ?_
  · exact ⟨Off.refl _ _, (hF12 0).trans (rfl), (hF12 1).trans (rfl), rfl, by omega, by omega, hr4.mono (fun b T h => by first | exact ⟨by have := h.1; omega, h.2⟩ | exact ⟨by have := h.1; omega, h.2.1⟩ | exact ⟨by have := h.1; omega, h.2, by have := h.1; omega⟩ | exact ⟨by have := h.1; omega, h.2.1, by have := h.1; omega⟩ | exact ⟨by have := h.1; omega, h.2.1, h.2.2⟩), hr9.mono (fun b T h => by first | exact ⟨by have := h.1; omega, h.2⟩ | exact ⟨by have := h.1; omega, h.2.1⟩ | exact ⟨by have := h.1; omega, h.2, by have := h.1; omega⟩ | exact ⟨by have := h.1; omega, h.2.1, by have := h.1; omega⟩ | exact ⟨by have := h.1; omega, h.2.1, h.2.2⟩), hE, Nat.le_refl _⟩
  · clear hx hy hE hr4 hr9
    rintro ⟨a, b, va, vb⟩ f14 w15 ⟨hoff16, hs17, hs18, hg, hla, hlb, ha, hb, hE, hz13⟩
    refine wseq ?_
    refine wseq ?_
    refine wregion ?_
    refine RL.val rfl rfl (by decide) (r_move_as (v := vb) hs18) ?_
    obtain ⟨A19, c20, hv21, hc22, hc23⟩ := hb.len
    refine RL.val rfl rfl (by decide) (r_len Try.underlying38 hv21) ?_
    refine RL.val rfl rfl (by decide) (r_gtr (k := .i64) (a := (((digs b).length : Nat) : Int)) (b := 0) rfl rfl) ?_
    refine RL.nil ?_
    refine wcond (b := decide (0 < (((digs b).length : Nat) : Int))) rfl (fun hb24 => ?_) (fun hb24 => ?_)
    · have hb24p := hb24
      replace hb24p := of_decide_eq_true hb24p
      have hb0 : b ≠ 0 := fun h => by rw [h] at hb24p; simp [digs_zero] at hb24p
      refine wskip ?_
      refine wblock ?_
      refine wseq ?_
      refine wregion ?_
      refine RL.val rfl rfl (by decide) (r_move_as (v := va) hs17) ?_
      refine RL.val rfl rfl (by decide) (r_move_as (v := vb) hs18) ?_
      refine RL.call rfl rfl (by decide) (r_call (vl := [va, vb]) ent54 rfl) (r01_divmod ha (digs_lm _) (by first | omega | simp) hb (digs_lm _) (by first | omega | simp)) ?_
      rintro vv31 w25 ⟨⟨vq27, vr29, hv32, hq28, hr30⟩, he26⟩
      simp only [val_digs] at hv32 hq28 hr30
      subst hv32
      have hlv33 := dl_div a b
      have hlv34 := dl_modZ a b
      have hlv35 := dl_modZ' a b
      have he26z := he26.size
      replace hE := Below.ext hE (by omega) he26
      replace ha := ha.tr (Sm.ext he26)
      replace hb := hb.tr (Sm.ext he26)
      refine RL.val rfl rfl (by decide) (r_move_as (v := (.tuple #[vq27, vr29, (.bool (decide (b ≠ 0)))])) rfl) ?_
      refine RL.val rfl rfl (by decide) (r_extract (v := vq27) rfl rfl) ?_
      refine RL.val rfl rfl (by decide) (r_extract (v := vr29) rfl rfl) ?_
      refine RL.val rfl rfl (by decide) (r_extract (v := (.bool (decide (b ≠ 0)))) rfl rfl) ?_
      refine RL.val rfl rfl (by decide) (r_assign_as (v := vq27) rfl) ?_
      refine RL.val rfl rfl (by decide) (r_assign_as (v := vr29) rfl) ?_
      refine RL.val rfl rfl (by decide) (r_assign_as (v := (.bool (decide (b ≠ 0)))) rfl) ?_
      refine RL.nil ?_
      refine wregion ?_
      refine RL.val rfl rfl (by decide) (r_move_as (v := vb) hs18) ?_
      refine RL.val rfl rfl (by decide) (r_move_as (v := vr29) rfl) ?_
      refine RL.val rfl rfl (by decide) (r_assign_as (v := vb) rfl) ?_
      refine RL.val rfl rfl (by decide) (r_assign_as (v := vr29) rfl) ?_
      refine RL.nil ?_
      refine ⟨(b, modZ a b, vb, vr29), ⟨?_, ?_, ?_, ?_, ?_, ?_, ?_, ?_, ?_, ?_⟩, ?_⟩
      · exact (by repeat (first | exact hoff16 | refine Off.st ?_ (by decide) _))
      · first | rfl | exact int_eq (by omega) | exact bool_eq (by simp)
      · first | rfl | exact int_eq (by omega) | exact bool_eq (by simp)
      · rw [← hg, show modZ a b = a % b from if_neg hb0, Nat.gcd_comm, ← Nat.gcd_rec, Nat.gcd_comm]
      · omega
      · omega
      · exact hb
      · exact hr30.mono (fun b T h => by first | exact ⟨by have := h.1; omega, h.2⟩ | exact ⟨by have := h.1; omega, h.2.1⟩ | exact ⟨by have := h.1; omega, h.2, by have := h.1; omega⟩ | exact ⟨by have := h.1; omega, h.2.1, by have := h.1; omega⟩ | exact ⟨by have := h.1; omega, h.2.1, h.2.2⟩)
      · exact hE
      · omega
      · (try dsimp only)
        rw [show modZ a b = a % b from if_neg hb0]
        exact Nat.mod_lt _ (by omega)
    · have hb24p := hb24
      replace hb24p := of_decide_eq_false hb24p
      have hb0 : b = 0 := len_zero.1 (by unfold len; omega)
      refine wexit ?_
      refine wseq ?_
      refine wregion ?_
      refine RL.val rfl rfl (by decide) (r_move_as (v := va) hs17) ?_
      refine RL.val rfl rfl (by decide) (r_assign_as (v := va) rfl) ?_
      refine RL.nil ?_
      refine wret ?_
      refine ⟨[va], ⟨rfl, trivial⟩, ?_⟩
      rw [hb0, Nat.gcd_zero_right] at hg
      rw [hg] at ha
      exact ⟨ha, hE⟩


theorem isub_a {sx sy : Bool} {x y : Nat} {zx zy : Int} (ex : sg sx x = zx) (ey : sg sy y = zy) (hs : sx ≠ sy) (h : y ≤ x) : sg sx (x - y) = zx + zy := by
  rw [← ex, ← ey]
  cases sx <;> cases sy <;> simp [sg] at * <;> omega
theorem isub_b {sx sy : Bool} {x y : Nat} {zx zy : Int} (ex : sg sx x = zx) (ey : sg sy y = zy) (hs : sx ≠ sy) (h : ¬ y ≤ x) : sg sy (y - x) = zx + zy := by
  rw [← ex, ← ey]
  cases sx <;> cases sy <;> simp [sg] at * <;> omega
theorem agg2 {b c : Bool} {v : Value} (h : b = c) : Value.agg #[.bool b, v] = .agg #[.bool c, v] := by rw [h]


set_option maxHeartbeats 1000000 in
theorem r02_make {w : World} {sx : Bool} {Dx : Nat → TypeId → Prop} {vx : Value} {x : List Nat} (hx : Sg (gN .u32) Dx w vx x) (lmx : Lm x) (lnx : x.length ≤ 8796093022208) {zx : Int} (ex : sg sx (val x) = zx) :
    Calls Try.prog 46 #[(.bool (sx)), vx] w fun e w' => ∃ v, e = .returned v ∧ (∃ vr, v = .agg #[.bool (decide (zx < 0)), vr] ∧ Sg (gN .u32) (fun b T => w.heap.size ≤ b ∧ T = 52) w' vr (digs zx.natAbs) ∧ (digs zx.natAbs).length ≤ x.length) ∧ Ext w w' := by
  have hE : Below w.heap.size w w := Below.refl _ _
  have hlzx := il_le lmx ex
  refine calls_of (n := 16) (rs := [.cell 4 40]) Try.func46 rfl rfl rfl (Nat.le_of_ble_eq_true rfl) ?_
  refine wset fun F0 hF0 => ?_
  refine wseq ?_
  refine wregion ?_
  refine RL.run rfl rfl (by decide) (h_alloc (cs := [(.bool false), (.slice none 0 0)]) ty40 rfl) ?_
  rintro _ w1 ⟨b2, rfl, hs5, hb4, he3⟩
  have ge_b2 : w.heap.size ≤ b2 := by rw [hs5]; exact hE.size
  replace hE := Below.ext hE hE.size he3
  refine RL.nil ?_
  refine wseq ?_
  refine wregion ?_
  refine RL.val rfl rfl (by decide) (r_move_as (v := vx) (hF0 1)) ?_
  replace hx := hx.tr (Sm.ext he3)
  refine RL.call rfl rfl (by decide) (r_call (vl := [vx]) ent58 rfl) (r01_trim hx (by assumption) (by first | omega | simp)) ?_
  rintro vr8 w6 ⟨hr9, he7⟩
  replace hr9 := hr9.mono (D' := fun b T => w.heap.size ≤ b ∧ T = 52) (fun b T h => ⟨Nat.le_trans hE.size h.1, h.2⟩)
  replace hE := Below.ext hE hE.size he7
  have hlt10 : (digs (val x)).length ≤ x.length := len_le_of (by assumption)
  refine RL.val rfl rfl (by decide) (r_assign_as (v := vr8) rfl) ?_
  refine RL.nil ?_
  refine wseq ?_
  refine wregion ?_
  refine RL.val rfl rfl (by decide) (r_move_as (v := (.bool (sx))) (hF0 0)) ?_
  refine RL.val rfl rfl (by decide) (r_move_as (v := (.bool (sx))) rfl) ?_
  rcases Bool.eq_false_or_eq_true (sx) with hb11 | hb11
  · have hb11p := hb11
    have hsx : sx = true := hb11
    refine RL.gval rfl rfl (bool_eq hb11) rfl (by decide) (r_move_as (v := vr8) rfl) ?_
    obtain ⟨A12, c13, hv14, hc15, hc16⟩ := hr9.len
    refine RL.gval rfl rfl (bool_eq hb11) rfl (by decide) (r_len Try.underlying38 hv14) ?_
    refine RL.gval rfl rfl (bool_eq hb11) rfl (by decide) (r_gtr (k := .i64) (a := (((digs (val x)).length : Nat) : Int)) (b := 0) rfl rfl) ?_
    refine RL.val rfl rfl (by decide) (r_pick_t (v := (.bool (decide (0 < (((digs (val x)).length : Nat) : Int))))) (bool_eq hb11) rfl) ?_
    refine RL.val rfl rfl (by decide) (r_move_as (v := vr8) rfl) ?_
    refine RL.val rfl rfl (by decide) (r_build (vl := [(0, (.bool (decide (0 < (((digs (val x)).length : Nat) : Int))))), (1, vr8)]) (cs := [(.bool (decide (0 < (((digs (val x)).length : Nat) : Int)))), vr8]) Try.underlying40 ty40 rfl pl40 (by obtain ⟨_, _, e0_, -, -⟩ := hr9.len; simp only [e0_]; rfl)) ?_
    replace hb4 := hb4.ext he7
    refine RL.runs rfl rfl (h_store (vv := (.agg #[(.bool (decide (0 < (((digs (val x)).length : Nat) : Int)))), vr8])) (cs := [(.bool (decide (0 < (((digs (val x)).length : Nat) : Int)))), vr8]) (o := 0) ty40 rfl rfl rfl rfl (one_cons rfl (one_cons hr9.one one_nil)) hb4 (Nat.le_of_ble_eq_true rfl)) ?_
    rintro w17 ⟨hn18, hx19, hz20⟩
    replace hE := Below.exc hE hE.size hx19 ge_b2
    have nb_hx19 := (Nb.of hb4 (nu_cons rfl (nu_cons rfl nu_nil)))
    replace hb4 : Bk w17 b2 40 [(.bool (decide (0 < (((digs (val x)).length : Nat) : Int)))), vr8] := hn18
    refine RL.nil ?_
    refine wret ?_
    refine ⟨[(.agg #[(.bool (decide (0 < (((digs (val x)).length : Nat) : Int)))), vr8])], ⟨⟨_, _, [(.bool (decide (0 < (((digs (val x)).length : Nat) : Int)))), vr8], rfl, ⟨_, Try.underlying40⟩, hb4.cells rfl, .inl ⟨ag40, ⟨_, _, ty40⟩, rfl⟩⟩, trivial⟩, ?_⟩
    replace hr9 := hr9.apn hx19 nb_hx19
    exact ⟨⟨_, agg2 (mk_t ex hsx), by rw [← mk_abs ex]; exact hr9, by omega⟩, hE⟩
  · have hb11p := hb11
    have hsx : sx = false := hb11
    refine RL.gno rfl rfl (bool_eq hb11) rfl (by decide) ?_
    refine RL.gno rfl rfl (bool_eq hb11) rfl (by decide) ?_
    refine RL.gno rfl rfl (bool_eq hb11) rfl (by decide) ?_
    refine RL.val rfl rfl (by decide) (r_pick_f (v := (.bool (false))) (bool_eq hb11) rfl) ?_
    refine RL.val rfl rfl (by decide) (r_move_as (v := vr8) rfl) ?_
    refine RL.val rfl rfl (by decide) (r_build (vl := [(0, (.bool (false))), (1, vr8)]) (cs := [(.bool (false)), vr8]) Try.underlying40 ty40 rfl pl40 (by obtain ⟨_, _, e0_, -, -⟩ := hr9.len; simp only [e0_]; rfl)) ?_
    replace hb4 := hb4.ext he7
    refine RL.runs rfl rfl (h_store (vv := (.agg #[(.bool (false)), vr8])) (cs := [(.bool (false)), vr8]) (o := 0) ty40 rfl rfl rfl rfl (one_cons rfl (one_cons hr9.one one_nil)) hb4 (Nat.le_of_ble_eq_true rfl)) ?_
    rintro w21 ⟨hn22, hx23, hz24⟩
    replace hE := Below.exc hE hE.size hx23 ge_b2
    have nb_hx23 := (Nb.of hb4 (nu_cons rfl (nu_cons rfl nu_nil)))
    replace hb4 : Bk w21 b2 40 [(.bool (false)), vr8] := hn22
    refine RL.nil ?_
    refine wret ?_
    refine ⟨[(.agg #[(.bool (false)), vr8])], ⟨⟨_, _, [(.bool (false)), vr8], rfl, ⟨_, Try.underlying40⟩, hb4.cells rfl, .inl ⟨ag40, ⟨_, _, ty40⟩, rfl⟩⟩, trivial⟩, ?_⟩
    replace hr9 := hr9.apn hx23 nb_hx23
    exact ⟨⟨_, agg2 (mk_f ex hsx), by rw [← mk_abs ex]; exact hr9, by omega⟩, hE⟩

set_option maxHeartbeats 1000000 in
theorem r02_norm {w : World} {sx : Bool} {Dx : Nat → TypeId → Prop} {vx : Value} {x : List Nat} (hx : Sg (gN .u32) Dx w vx x) (lmx : Lm x) (lnx : x.length ≤ 8796093022208) {zx : Int} (ex : sg sx (val x) = zx) :
    Calls Try.prog 41 #[(.agg #[(.bool (sx)), vx])] w fun e w' => ∃ v, e = .returned v ∧ (∃ vr, v = .agg #[.bool (decide (zx < 0)), vr] ∧ Sg (gN .u32) (fun b T => w.heap.size ≤ b ∧ T = 52) w' vr (digs zx.natAbs) ∧ (digs zx.natAbs).length ≤ x.length) ∧ Ext w w' := by
  have hE : Below w.heap.size w w := Below.refl _ _
  have hlzx := il_le lmx ex
  refine calls_of (n := 8) (rs := [.cell 2 40]) Try.func41 rfl rfl rfl (Nat.le_of_ble_eq_true rfl) ?_
  refine wset fun F0 hF0 => ?_
  refine wseq ?_
  refine wregion ?_
  refine RL.run rfl rfl (by decide) (h_box (vv := (.agg #[(.bool (sx)), vx])) (cs := [(.bool (sx)), vx]) (hF0 0) rfl) ?_
  rintro _ w1 ⟨b2, rfl, hs5, hb4, he3⟩
  have ge_b2 : w.heap.size ≤ b2 := by rw [hs5]; exact hE.size
  replace hE := Below.ext hE hE.size he3
  refine RL.run rfl rfl (by decide) (h_alloc (cs := [(.bool false), (.slice none 0 0)]) ty40 rfl) ?_
  rintro _ w6 ⟨b7, rfl, hs10, hb9, he8⟩
  have lt_b2_b7 := Nat.lt_of_lt_of_eq hb4.lt hs10.symm
  have ge_b7 : w.heap.size ≤ b7 := by rw [hs10]; exact hE.size
  replace hE := Below.ext hE hE.size he8
  refine RL.nil ?_
  refine wseq ?_
  refine wregion ?_
  refine RL.val rfl rfl (by decide) (r_fieldAddr Try.underlying40 rfl ty4 rfl) ?_
  replace hb4 := hb4.ext he8
  have hc11 := hb4.cell (j := 0) (u := (.bool (sx))) rfl
  refine RL.val rfl rfl (by decide) (r_load (v := (.bool (sx))) Try.underlying4 ag4 rfl hc11) ?_
  refine RL.val rfl rfl (by decide) (r_fieldAddr Try.underlying40 rfl ty38 rfl) ?_
  have hc12 := hb4.cell (j := 1) (u := vx) rfl
  refine RL.val rfl rfl (by decide) (r_load (v := vx) Try.underlying38 ag38 rfl hc12) ?_
  replace hx := hx.tr (Sm.ext (Ext.trans he3 he8))
  refine RL.call rfl rfl (by decide) (r_call (vl := [(.bool (sx)), vx]) ent46 rfl) (r02_make hx (by assumption) (by first | omega | simp) (show sg sx (val x) = zx from ex)) ?_
  rintro _ w13 ⟨⟨vr15, rfl, hr16, hl17⟩, he14⟩
  replace hr16 := hr16.mono (D' := fun b T => w.heap.size ≤ b ∧ T = 52) (fun b T h => ⟨Nat.le_trans hE.size h.1, h.2⟩)
  replace hE := Below.ext hE hE.size he14
  replace hb9 := hb9.ext he14
  refine RL.runs rfl rfl (h_store (vv := (.agg #[(.bool (decide (zx < 0))), vr15])) (cs := [(.bool (decide (zx < 0))), vr15]) (o := 0) ty40 rfl rfl rfl rfl (one_cons rfl (one_cons hr16.one one_nil)) hb9 (Nat.le_of_ble_eq_true rfl)) ?_
  rintro w18 ⟨hn19, hx20, hz21⟩
  replace hE := Below.exc hE hE.size hx20 ge_b7
  have nb_hx20 := (Nb.of hb9 (nu_cons rfl (nu_cons rfl nu_nil)))
  replace hb9 : Bk w18 b7 40 [(.bool (decide (zx < 0))), vr15] := hn19
  refine RL.nil ?_
  refine wret ?_
  refine ⟨[(.agg #[(.bool (decide (zx < 0))), vr15])], ⟨⟨_, _, [(.bool (decide (zx < 0))), vr15], rfl, ⟨_, Try.underlying40⟩, hb9.cells rfl, .inl ⟨ag40, ⟨_, _, ty40⟩, rfl⟩⟩, trivial⟩, ?_⟩
  replace hr16 := hr16.apn hx20 nb_hx20
  exact ⟨⟨_, rfl, hr16, (by omega)⟩, hE⟩

set_option maxHeartbeats 1000000 in
theorem r02_neg {w : World} {sx : Bool} {Dx : Nat → TypeId → Prop} {vx : Value} {x : List Nat} (hx : Sg (gN .u32) Dx w vx x) (lmx : Lm x) (lnx : x.length ≤ 8796093022208) {zx : Int} (ex : sg sx (val x) = zx) :
    Calls Try.prog 45 #[(.agg #[(.bool (sx)), vx])] w fun e w' => ∃ v, e = .returned v ∧ (∃ vr, v = .agg #[.bool (decide ((-zx) < 0)), vr] ∧ Sg (gN .u32) (fun b T => w.heap.size ≤ b ∧ T = 52) w' vr (digs (-zx).natAbs) ∧ (digs (-zx).natAbs).length ≤ x.length) ∧ Ext w w' := by
  have hE : Below w.heap.size w w := Below.refl _ _
  have hlzx := il_le lmx ex
  refine calls_of (n := 9) (rs := [.cell 2 40]) Try.func45 rfl rfl rfl (Nat.le_of_ble_eq_true rfl) ?_
  refine wset fun F0 hF0 => ?_
  refine wseq ?_
  refine wregion ?_
  refine RL.run rfl rfl (by decide) (h_box (vv := (.agg #[(.bool (sx)), vx])) (cs := [(.bool (sx)), vx]) (hF0 0) rfl) ?_
  rintro _ w1 ⟨b2, rfl, hs5, hb4, he3⟩
  have ge_b2 : w.heap.size ≤ b2 := by rw [hs5]; exact hE.size
  replace hE := Below.ext hE hE.size he3
  refine RL.run rfl rfl (by decide) (h_alloc (cs := [(.bool false), (.slice none 0 0)]) ty40 rfl) ?_
  rintro _ w6 ⟨b7, rfl, hs10, hb9, he8⟩
  have lt_b2_b7 := Nat.lt_of_lt_of_eq hb4.lt hs10.symm
  have ge_b7 : w.heap.size ≤ b7 := by rw [hs10]; exact hE.size
  replace hE := Below.ext hE hE.size he8
  refine RL.nil ?_
  refine wseq ?_
  refine wregion ?_
  refine RL.val rfl rfl (by decide) (r_fieldAddr Try.underlying40 rfl ty4 rfl) ?_
  replace hb4 := hb4.ext he8
  have hc11 := hb4.cell (j := 0) (u := (.bool (sx))) rfl
  refine RL.val rfl rfl (by decide) (r_load (v := (.bool (sx))) Try.underlying4 ag4 rfl hc11) ?_
  refine RL.val rfl rfl (by decide) (r_not rfl) ?_
  refine RL.val rfl rfl (by decide) (r_fieldAddr Try.underlying40 rfl ty38 rfl) ?_
  have hc12 := hb4.cell (j := 1) (u := vx) rfl
  refine RL.val rfl rfl (by decide) (r_load (v := vx) Try.underlying38 ag38 rfl hc12) ?_
  replace hx := hx.tr (Sm.ext (Ext.trans he3 he8))
  refine RL.call rfl rfl (by decide) (r_call (vl := [(.bool (!sx)), vx]) ent46 rfl) (r02_make hx (by assumption) (by first | omega | simp) (show sg (!sx) (val x) = -zx from (by rw [sg_neg, ex]))) ?_
  rintro _ w13 ⟨⟨vr15, rfl, hr16, hl17⟩, he14⟩
  replace hr16 := hr16.mono (D' := fun b T => w.heap.size ≤ b ∧ T = 52) (fun b T h => ⟨Nat.le_trans hE.size h.1, h.2⟩)
  replace hE := Below.ext hE hE.size he14
  replace hb9 := hb9.ext he14
  refine RL.runs rfl rfl (h_store (vv := (.agg #[(.bool (decide ((-zx) < 0))), vr15])) (cs := [(.bool (decide ((-zx) < 0))), vr15]) (o := 0) ty40 rfl rfl rfl rfl (one_cons rfl (one_cons hr16.one one_nil)) hb9 (Nat.le_of_ble_eq_true rfl)) ?_
  rintro w18 ⟨hn19, hx20, hz21⟩
  replace hE := Below.exc hE hE.size hx20 ge_b7
  have nb_hx20 := (Nb.of hb9 (nu_cons rfl (nu_cons rfl nu_nil)))
  replace hb9 : Bk w18 b7 40 [(.bool (decide ((-zx) < 0))), vr15] := hn19
  refine RL.nil ?_
  refine wret ?_
  refine ⟨[(.agg #[(.bool (decide ((-zx) < 0))), vr15])], ⟨⟨_, _, [(.bool (decide ((-zx) < 0))), vr15], rfl, ⟨_, Try.underlying40⟩, hb9.cells rfl, .inl ⟨ag40, ⟨_, _, ty40⟩, rfl⟩⟩, trivial⟩, ?_⟩
  replace hr16 := hr16.apn hx20 nb_hx20
  exact ⟨⟨_, rfl, hr16, (by omega)⟩, hE⟩

set_option maxHeartbeats 1000000 in
theorem r02_abs {w : World} {sx : Bool} {Dx : Nat → TypeId → Prop} {vx : Value} {x : List Nat} (hx : Sg (gN .u32) Dx w vx x) (lmx : Lm x) (lnx : x.length ≤ 8796093022208) {zx : Int} (ex : sg sx (val x) = zx) :
    Calls Try.prog 56 #[(.agg #[(.bool (sx)), vx])] w fun e w' => ∃ v, e = .returned v ∧ (∃ vr, v = .agg #[.bool (decide (((zx.natAbs : Nat) : Int) < 0)), vr] ∧ Sg (gN .u32) (fun b T => w.heap.size ≤ b ∧ T = 52) w' vr (digs ((zx.natAbs : Nat) : Int).natAbs) ∧ (digs ((zx.natAbs : Nat) : Int).natAbs).length ≤ x.length) ∧ Ext w w' := by
  have hE : Below w.heap.size w w := Below.refl _ _
  have hlzx := il_le lmx ex
  refine calls_of (n := 6) (rs := [.cell 2 40]) Try.func56 rfl rfl rfl (Nat.le_of_ble_eq_true rfl) ?_
  refine wset fun F0 hF0 => ?_
  refine wseq ?_
  refine wregion ?_
  refine RL.run rfl rfl (by decide) (h_box (vv := (.agg #[(.bool (sx)), vx])) (cs := [(.bool (sx)), vx]) (hF0 0) rfl) ?_
  rintro _ w1 ⟨b2, rfl, hs5, hb4, he3⟩
  have ge_b2 : w.heap.size ≤ b2 := by rw [hs5]; exact hE.size
  replace hE := Below.ext hE hE.size he3
  refine RL.run rfl rfl (by decide) (h_alloc (cs := [(.bool false), (.slice none 0 0)]) ty40 rfl) ?_
  rintro _ w6 ⟨b7, rfl, hs10, hb9, he8⟩
  have lt_b2_b7 := Nat.lt_of_lt_of_eq hb4.lt hs10.symm
  have ge_b7 : w.heap.size ≤ b7 := by rw [hs10]; exact hE.size
  replace hE := Below.ext hE hE.size he8
  refine RL.nil ?_
  refine wseq ?_
  refine wregion ?_
  refine RL.val rfl rfl (by decide) (r_fieldAddr Try.underlying40 rfl ty38 rfl) ?_
  replace hb4 := hb4.ext he8
  have hc11 := hb4.cell (j := 1) (u := vx) rfl
  refine RL.val rfl rfl (by decide) (r_load (v := vx) Try.underlying38 ag38 rfl hc11) ?_
  replace hx := hx.tr (Sm.ext (Ext.trans he3 he8))
  refine RL.call rfl rfl (by decide) (r_call (vl := [(.bool (false)), vx]) ent46 rfl) (r02_make hx (by assumption) (by first | omega | simp) (show sg false (val x) = ((zx.natAbs : Nat) : Int) from (by rw [← ex, sg_abs, sg_f]))) ?_
  rintro _ w12 ⟨⟨vr14, rfl, hr15, hl16⟩, he13⟩
  replace hr15 := hr15.mono (D' := fun b T => w.heap.size ≤ b ∧ T = 52) (fun b T h => ⟨Nat.le_trans hE.size h.1, h.2⟩)
  replace hE := Below.ext hE hE.size he13
  replace hb9 := hb9.ext he13
  refine RL.runs rfl rfl (h_store (vv := (.agg #[(.bool (decide (((zx.natAbs : Nat) : Int) < 0))), vr14])) (cs := [(.bool (decide (((zx.natAbs : Nat) : Int) < 0))), vr14]) (o := 0) ty40 rfl rfl rfl rfl (one_cons rfl (one_cons hr15.one one_nil)) hb9 (Nat.le_of_ble_eq_true rfl)) ?_
  rintro w17 ⟨hn18, hx19, hz20⟩
  replace hE := Below.exc hE hE.size hx19 ge_b7
  have nb_hx19 := (Nb.of hb9 (nu_cons rfl (nu_cons rfl nu_nil)))
  replace hb9 : Bk w17 b7 40 [(.bool (decide (((zx.natAbs : Nat) : Int) < 0))), vr14] := hn18
  refine RL.nil ?_
  refine wret ?_
  refine ⟨[(.agg #[(.bool (decide (((zx.natAbs : Nat) : Int) < 0))), vr14])], ⟨⟨_, _, [(.bool (decide (((zx.natAbs : Nat) : Int) < 0))), vr14], rfl, ⟨_, Try.underlying40⟩, hb9.cells rfl, .inl ⟨ag40, ⟨_, _, ty40⟩, rfl⟩⟩, trivial⟩, ?_⟩
  replace hr15 := hr15.apn hx19 nb_hx19
  exact ⟨⟨_, rfl, hr15, (by omega)⟩, hE⟩

set_option maxHeartbeats 1000000 in
theorem r02_add {w : World} {sx : Bool} {Dx : Nat → TypeId → Prop} {vx : Value} {x : List Nat} (hx : Sg (gN .u32) Dx w vx x) (lmx : Lm x) (lnx : x.length ≤ 274877906944) {zx : Int} (ex : sg sx (val x) = zx) {sy : Bool} {Dy : Nat → TypeId → Prop} {vy : Value} {y : List Nat} (hy : Sg (gN .u32) Dy w vy y) (lmy : Lm y) (lny : y.length ≤ 274877906944) {zy : Int} (ey : sg sy (val y) = zy) :
    Calls Try.prog 55 #[(.agg #[(.bool (sx)), vx]), (.agg #[(.bool (sy)), vy])] w fun e w' => ∃ v, e = .returned v ∧ (∃ vr, v = .agg #[.bool (decide ((zx + zy) < 0)), vr] ∧ Sg (gN .u32) (fun b T => w.heap.size ≤ b ∧ T = 52) w' vr (digs (zx + zy).natAbs) ∧ (digs (zx + zy).natAbs).length ≤ max x.length y.length + 1) ∧ Ext w w' := by
  have hE : Below w.heap.size w w := Below.refl _ _
  have hlzx := il_le lmx ex
  have hlzy := il_le lmy ey
  refine calls_of (n := 47) (rs := [.cell 4 40]) Try.func55 rfl rfl rfl (Nat.le_of_ble_eq_true rfl) ?_
  refine wset fun F0 hF0 => ?_
  refine wseq ?_
  refine wregion ?_
  refine RL.run rfl rfl (by decide) (h_box (vv := (.agg #[(.bool (sx)), vx])) (cs := [(.bool (sx)), vx]) (hF0 0) rfl) ?_
  rintro _ w1 ⟨b2, rfl, hs5, hb4, he3⟩
  have ge_b2 : w.heap.size ≤ b2 := by rw [hs5]; exact hE.size
  replace hE := Below.ext hE hE.size he3
  refine RL.run rfl rfl (by decide) (h_box (vv := (.agg #[(.bool (sy)), vy])) (cs := [(.bool (sy)), vy]) (hF0 1) rfl) ?_
  rintro _ w6 ⟨b7, rfl, hs10, hb9, he8⟩
  have lt_b2_b7 := Nat.lt_of_lt_of_eq hb4.lt hs10.symm
  have ge_b7 : w.heap.size ≤ b7 := by rw [hs10]; exact hE.size
  replace hE := Below.ext hE hE.size he8
  refine RL.run rfl rfl (by decide) (h_alloc (cs := [(.bool false), (.slice none 0 0)]) ty40 rfl) ?_
  rintro _ w11 ⟨b12, rfl, hs15, hb14, he13⟩
  have lt_b7_b12 := Nat.lt_of_lt_of_eq hb9.lt hs15.symm
  have ge_b12 : w.heap.size ≤ b12 := by rw [hs15]; exact hE.size
  replace hE := Below.ext hE hE.size he13
  refine RL.nil ?_
  refine wseq ?_
  refine wseq ?_
  refine wregion ?_
  refine RL.val rfl rfl (by decide) (r_fieldAddr Try.underlying40 rfl ty4 rfl) ?_
  replace hb4 := hb4.ext (Ext.trans he8 he13)
  have hc16 := hb4.cell (j := 0) (u := (.bool (sx))) rfl
  refine RL.val rfl rfl (by decide) (r_load (v := (.bool (sx))) Try.underlying4 ag4 rfl hc16) ?_
  refine RL.val rfl rfl (by decide) (r_fieldAddr Try.underlying40 rfl ty4 rfl) ?_
  replace hb9 := hb9.ext he13
  have hc17 := hb9.cell (j := 0) (u := (.bool (sy))) rfl
  refine RL.val rfl rfl (by decide) (r_load (v := (.bool (sy))) Try.underlying4 ag4 rfl hc17) ?_
  refine RL.val rfl rfl (by decide) (r_eqlb Try.underlying4 rfl rfl) ?_
  refine RL.nil ?_
  refine wcond (b := sx == sy) rfl (fun hb18 => ?_) (fun hb18 => ?_)
  · have hb18p := hb18
    have hs : sx = sy := by simpa using hb18
    refine wseq ?_
    refine wdraw mixed fun w19 he20 => ?_
    replace hE := Below.ext hE hE.size he20
    refine RA.take 0 rfl (by kernel_rfl) rfl rfl (by decide) (fun _ => r_fieldAddr Try.underlying40 rfl ty4 rfl) ?_
    replace hb4 := hb4.ext he20
    have hc21 := hb4.cell (j := 0) (u := (.bool (sx))) rfl
    refine RA.rd 1 rfl (by kernel_rfl) rfl rfl rfl (by decide) (Ext.refl _) (fun u hu => r_load (v := (.bool (sx))) Try.underlying4 ag4 rfl (cell_ext hu hc21)) ?_
    refine RA.take 2 rfl (by kernel_rfl) rfl rfl (by decide) (fun _ => r_fieldAddr Try.underlying40 rfl ty38 rfl) ?_
    have hc22 := hb4.cell (j := 1) (u := vx) rfl
    refine RA.rd 3 rfl (by kernel_rfl) rfl rfl rfl (by decide) (Ext.refl _) (fun u hu => r_load (v := vx) Try.underlying38 ag38 rfl (cell_ext hu hc22)) ?_
    refine RA.take 4 rfl (by kernel_rfl) rfl rfl (by decide) (fun _ => r_fieldAddr Try.underlying40 rfl ty38 rfl) ?_
    replace hb9 := hb9.ext he20
    have hc23 := hb9.cell (j := 1) (u := vy) rfl
    refine RA.rd 5 rfl (by kernel_rfl) rfl rfl rfl (by decide) (Ext.refl _) (fun u hu => r_load (v := vy) Try.underlying38 ag38 rfl (cell_ext hu hc23)) ?_
    refine RA.all [6] (by kernel_rfl) rfl ?_
    have hm28 := Ext.trans he3 (Ext.trans he8 (Ext.trans he13 he20))
    replace hx := hx.tr (Sm.ext hm28)
    replace hy := hy.tr (Sm.ext hm28)
    refine RS.call rfl rfl rfl (by decide) (r_call (vl := [vx, vy]) ent61 rfl) (r01_add hx (by assumption) (by first | omega | simp) hy (by assumption) (by first | omega | simp)) ?_ RS.nil
    rintro vr26 w24 ⟨hr27, he25⟩
    refine ⟨.inr (.inr he25), RA.more (S' := fun u => Ext _ u) (fun u hu => Ext.trans he25 hu) ?_⟩
    replace hr27 := hr27.mono (D' := fun b T => w.heap.size ≤ b ∧ T = 52) (fun b T h => ⟨Nat.le_trans hE.size h.1, h.2⟩)
    replace hE := Below.ext hE hE.size he25
    have hlv29 := dl_val (x := x) (by assumption)
    have hlv30 := dl_val (x := y) (by assumption)
    have hlv31 := dl_add (val x) (val y)
    refine RA.all [7] (by kernel_rfl) rfl ?_
    refine RS.call rfl rfl rfl (by decide) (r_call (vl := [(.bool (sx)), vr26]) ent46 rfl) (r02_make hr27 (digs_lm _) (by first | omega | simp) (show sg sx (val (digs ((val x) + (val y)))) = zx + zy from (by rw [val_digs, sg_add, ex, hs, ey]))) ?_ RS.nil
    rintro _ w32 ⟨⟨vr34, rfl, hr35, hl36⟩, he33⟩
    refine ⟨.inr (.inr he33), RA.more (S' := fun u => Ext _ u) (fun u hu => Ext.trans he33 hu) ?_⟩
    replace hr35 := hr35.mono (D' := fun b T => w.heap.size ≤ b ∧ T = 52) (fun b T h => ⟨Nat.le_trans hE.size h.1, h.2⟩)
    replace hE := Below.ext hE hE.size he33
    refine RA.all [8] (by kernel_rfl) rfl ?_
    have hm41 := Ext.trans he20 (Ext.trans he25 he33)
    replace hb14 := hb14.ext hm41
    refine RS.runs rfl rfl rfl (h_store (vv := (.agg #[(.bool (decide ((zx + zy) < 0))), vr34])) (cs := [(.bool (decide ((zx + zy) < 0))), vr34]) (o := 0) ty40 rfl rfl rfl rfl (one_cons rfl (one_cons hr35.one one_nil)) hb14 (Nat.le_of_ble_eq_true rfl)) ?_ RS.nil
    rintro w37 ⟨hn38, hx39, hz40⟩
    refine ⟨.inr (.inl (by kernel_rfl)), ?_⟩
    replace hE := Below.exc hE hE.size hx39 ge_b12
    have nb_hx39 := (Nb.of hb14 (nu_cons rfl (nu_cons rfl nu_nil)))
    replace hb14 : Bk w37 b12 40 [(.bool (decide ((zx + zy) < 0))), vr34] := hn38
    refine RA.done (by kernel_rfl) ?_
    refine wret ?_
    refine ⟨[(.agg #[(.bool (decide ((zx + zy) < 0))), vr34])], ⟨⟨_, _, [(.bool (decide ((zx + zy) < 0))), vr34], rfl, ⟨_, Try.underlying40⟩, hb14.cells rfl, .inl ⟨ag40, ⟨_, _, ty40⟩, rfl⟩⟩, trivial⟩, ?_⟩
    replace hr35 := hr35.apn hx39 nb_hx39
    exact ⟨⟨_, rfl, hr35, (by omega)⟩, hE⟩
  · have hb18p := hb18
    have hs : sx ≠ sy := by simpa using hb18
    refine wskip ?_
    refine wseq ?_
    refine wseq ?_
    refine wregion ?_
    refine RL.val rfl rfl (by decide) (r_fieldAddr Try.underlying40 rfl ty38 rfl) ?_
    have hc42 := hb4.cell (j := 1) (u := vx) rfl
    refine RL.val rfl rfl (by decide) (r_load (v := vx) Try.underlying38 ag38 rfl hc42) ?_
    refine RL.val rfl rfl (by decide) (r_fieldAddr Try.underlying40 rfl ty38 rfl) ?_
    have hc43 := hb9.cell (j := 1) (u := vy) rfl
    refine RL.val rfl rfl (by decide) (r_load (v := vy) Try.underlying38 ag38 rfl hc43) ?_
    have hm50 := Ext.trans he3 (Ext.trans he8 he13)
    replace hx := hx.tr (Sm.ext hm50)
    replace hy := hy.tr (Sm.ext hm50)
    refine RL.call rfl rfl (by decide) (r_call (vl := [vx, vy]) ent63 rfl) (r01_sub hx (by assumption) (by first | omega | simp) hy (by assumption) (by first | omega | simp)) ?_
    rintro vq48 w44 ⟨⟨vr46, hq49, hr47⟩, he45⟩
    have hlv51 := dl_val (x := x) (by assumption)
    have hlv52 := dl_val (x := y) (by assumption)
    have hlv53 := dl_sub (val x) (val y)
    subst hq49
    replace hr47 := hr47.mono (D' := fun b T => w.heap.size ≤ b ∧ T = 52) (fun b T h => ⟨Nat.le_trans hE.size h.1, h.2⟩)
    replace hE := Below.ext hE hE.size he45
    refine RL.val rfl rfl (by decide) (r_move_as (v := (.tuple #[vr46, (.bool (decide ((val y) ≤ (val x))))])) rfl) ?_
    refine RL.val rfl rfl (by decide) (r_extract (v := vr46) rfl rfl) ?_
    refine RL.val rfl rfl (by decide) (r_extract (v := (.bool (decide ((val y) ≤ (val x))))) rfl rfl) ?_
    refine RL.val rfl rfl (by decide) (r_assign_as (v := vr46) rfl) ?_
    refine RL.val rfl rfl (by decide) (r_assign_as (v := (.bool (decide ((val y) ≤ (val x))))) rfl) ?_
    refine RL.nil ?_
    refine wseq ?_
    refine wregion ?_
    refine RL.val rfl rfl (by decide) (r_move_as (v := (.bool (decide ((val y) ≤ (val x))))) rfl) ?_
    refine RL.nil ?_
    refine wcond (b := decide ((val y) ≤ (val x))) rfl (fun hb54 => ?_) (fun hb54 => ?_)
    · have hb54p := hb54
      replace hb54p := of_decide_eq_true hb54p
      have hle : val y ≤ val x := hb54p
      refine wseq ?_
      refine wregion ?_
      refine RL.val rfl rfl (by decide) (r_fieldAddr Try.underlying40 rfl ty4 rfl) ?_
      replace hb4 := hb4.ext he45
      have hc55 := hb4.cell (j := 0) (u := (.bool (sx))) rfl
      refine RL.val rfl rfl (by decide) (r_load (v := (.bool (sx))) Try.underlying4 ag4 rfl hc55) ?_
      refine RL.val rfl rfl (by decide) (r_move_as (v := vr46) rfl) ?_
      refine RL.call rfl rfl (by decide) (r_call (vl := [(.bool (sx)), vr46]) ent46 rfl) (r02_make hr47 (digs_lm _) (by first | omega | simp) (show sg sx (val (digs ((val x) - (val y)))) = zx + zy from (by rw [val_digs]; exact isub_a ex ey hs hle))) ?_
      rintro _ w56 ⟨⟨vr58, rfl, hr59, hl60⟩, he57⟩
      replace hr59 := hr59.mono (D' := fun b T => w.heap.size ≤ b ∧ T = 52) (fun b T h => ⟨Nat.le_trans hE.size h.1, h.2⟩)
      replace hE := Below.ext hE hE.size he57
      replace hb14 := hb14.ext (Ext.trans he45 he57)
      refine RL.runs rfl rfl (h_store (vv := (.agg #[(.bool (decide ((zx + zy) < 0))), vr58])) (cs := [(.bool (decide ((zx + zy) < 0))), vr58]) (o := 0) ty40 rfl rfl rfl rfl (one_cons rfl (one_cons hr59.one one_nil)) hb14 (Nat.le_of_ble_eq_true rfl)) ?_
      rintro w61 ⟨hn62, hx63, hz64⟩
      replace hE := Below.exc hE hE.size hx63 ge_b12
      have nb_hx63 := (Nb.of hb14 (nu_cons rfl (nu_cons rfl nu_nil)))
      replace hb14 : Bk w61 b12 40 [(.bool (decide ((zx + zy) < 0))), vr58] := hn62
      refine RL.nil ?_
      refine wret ?_
      refine ⟨[(.agg #[(.bool (decide ((zx + zy) < 0))), vr58])], ⟨⟨_, _, [(.bool (decide ((zx + zy) < 0))), vr58], rfl, ⟨_, Try.underlying40⟩, hb14.cells rfl, .inl ⟨ag40, ⟨_, _, ty40⟩, rfl⟩⟩, trivial⟩, ?_⟩
      replace hr59 := hr59.apn hx63 nb_hx63
      exact ⟨⟨_, rfl, hr59, (by omega)⟩, hE⟩
    · have hb54p := hb54
      replace hb54p := of_decide_eq_false hb54p
      have hle : ¬ val y ≤ val x := hb54p
      refine wskip ?_
      refine wseq ?_
      refine wregion ?_
      refine RL.val rfl rfl (by decide) (r_fieldAddr Try.underlying40 rfl ty38 rfl) ?_
      replace hb9 := hb9.ext he45
      have hc65 := hb9.cell (j := 1) (u := vy) rfl
      refine RL.val rfl rfl (by decide) (r_load (v := vy) Try.underlying38 ag38 rfl hc65) ?_
      refine RL.val rfl rfl (by decide) (r_fieldAddr Try.underlying40 rfl ty38 rfl) ?_
      replace hb4 := hb4.ext he45
      have hc66 := hb4.cell (j := 1) (u := vx) rfl
      refine RL.val rfl rfl (by decide) (r_load (v := vx) Try.underlying38 ag38 rfl hc66) ?_
      replace hy := hy.tr (Sm.ext he45)
      replace hx := hx.tr (Sm.ext he45)
      refine RL.call rfl rfl (by decide) (r_call (vl := [vy, vx]) ent63 rfl) (r01_sub hy (by assumption) (by first | omega | simp) hx (by assumption) (by first | omega | simp)) ?_
      rintro vq71 w67 ⟨⟨vr69, hq72, hr70⟩, he68⟩
      have hlv73 := dl_val (x := y) (by assumption)
      have hlv74 := dl_val (x := x) (by assumption)
      have hlv75 := dl_sub (val y) (val x)
      subst hq72
      replace hr70 := hr70.mono (D' := fun b T => w.heap.size ≤ b ∧ T = 52) (fun b T h => ⟨Nat.le_trans hE.size h.1, h.2⟩)
      replace hE := Below.ext hE hE.size he68
      refine RL.val rfl rfl (by decide) (r_move_as (v := (.tuple #[vr69, (.bool (decide ((val x) ≤ (val y))))])) rfl) ?_
      refine RL.val rfl rfl (by decide) (r_extract (v := vr69) rfl rfl) ?_
      refine RL.val rfl rfl (by decide) (r_extract (v := (.bool (decide ((val x) ≤ (val y))))) rfl rfl) ?_
      refine RL.val rfl rfl (by decide) (r_assign_as (v := vr69) rfl) ?_
      refine RL.val rfl rfl (by decide) (r_assign_as (v := (.bool (decide ((val x) ≤ (val y))))) rfl) ?_
      refine RL.nil ?_
      refine wseq ?_
      refine wregion ?_
      refine RL.val rfl rfl (by decide) (r_fieldAddr Try.underlying40 rfl ty4 rfl) ?_
      replace hb9 := hb9.ext he68
      have hc76 := hb9.cell (j := 0) (u := (.bool (sy))) rfl
      refine RL.val rfl rfl (by decide) (r_load (v := (.bool (sy))) Try.underlying4 ag4 rfl hc76) ?_
      refine RL.val rfl rfl (by decide) (r_move_as (v := vr69) rfl) ?_
      refine RL.call rfl rfl (by decide) (r_call (vl := [(.bool (sy)), vr69]) ent46 rfl) (r02_make hr70 (digs_lm _) (by first | omega | simp) (show sg sy (val (digs ((val y) - (val x)))) = zx + zy from (by rw [val_digs]; exact isub_b ex ey hs hle))) ?_
      rintro _ w77 ⟨⟨vr79, rfl, hr80, hl81⟩, he78⟩
      replace hr80 := hr80.mono (D' := fun b T => w.heap.size ≤ b ∧ T = 52) (fun b T h => ⟨Nat.le_trans hE.size h.1, h.2⟩)
      replace hE := Below.ext hE hE.size he78
      have hm86 := Ext.trans he45 (Ext.trans he68 he78)
      replace hb14 := hb14.ext hm86
      refine RL.runs rfl rfl (h_store (vv := (.agg #[(.bool (decide ((zx + zy) < 0))), vr79])) (cs := [(.bool (decide ((zx + zy) < 0))), vr79]) (o := 0) ty40 rfl rfl rfl rfl (one_cons rfl (one_cons hr80.one one_nil)) hb14 (Nat.le_of_ble_eq_true rfl)) ?_
      rintro w82 ⟨hn83, hx84, hz85⟩
      replace hE := Below.exc hE hE.size hx84 ge_b12
      have nb_hx84 := (Nb.of hb14 (nu_cons rfl (nu_cons rfl nu_nil)))
      replace hb14 : Bk w82 b12 40 [(.bool (decide ((zx + zy) < 0))), vr79] := hn83
      refine RL.nil ?_
      refine wret ?_
      refine ⟨[(.agg #[(.bool (decide ((zx + zy) < 0))), vr79])], ⟨⟨_, _, [(.bool (decide ((zx + zy) < 0))), vr79], rfl, ⟨_, Try.underlying40⟩, hb14.cells rfl, .inl ⟨ag40, ⟨_, _, ty40⟩, rfl⟩⟩, trivial⟩, ?_⟩
      replace hr80 := hr80.apn hx84 nb_hx84
      exact ⟨⟨_, rfl, hr80, (by omega)⟩, hE⟩

set_option maxHeartbeats 1000000 in
theorem r02_sub {w : World} {sx : Bool} {Dx : Nat → TypeId → Prop} {vx : Value} {x : List Nat} (hx : Sg (gN .u32) Dx w vx x) (lmx : Lm x) (lnx : x.length ≤ 274877906944) {zx : Int} (ex : sg sx (val x) = zx) {sy : Bool} {Dy : Nat → TypeId → Prop} {vy : Value} {y : List Nat} (hy : Sg (gN .u32) Dy w vy y) (lmy : Lm y) (lny : y.length ≤ 274877906944) {zy : Int} (ey : sg sy (val y) = zy) :
    Calls Try.prog 57 #[(.agg #[(.bool (sx)), vx]), (.agg #[(.bool (sy)), vy])] w fun e w' => ∃ v, e = .returned v ∧ (∃ vr, v = .agg #[.bool (decide ((zx - zy) < 0)), vr] ∧ Sg (gN .u32) (fun b T => w.heap.size ≤ b ∧ T = 52) w' vr (digs (zx - zy).natAbs) ∧ (digs (zx - zy).natAbs).length ≤ max x.length y.length + 1) ∧ Ext w w' := by
  have hE : Below w.heap.size w w := Below.refl _ _
  have hlzx := il_le lmx ex
  have hlzy := il_le lmy ey
  refine calls_of (n := 9) (rs := [.cell 4 40]) Try.func57 rfl rfl rfl (Nat.le_of_ble_eq_true rfl) ?_
  refine wset fun F0 hF0 => ?_
  refine wseq ?_
  refine wregion ?_
  refine RL.run rfl rfl (by decide) (h_box (vv := (.agg #[(.bool (sx)), vx])) (cs := [(.bool (sx)), vx]) (hF0 0) rfl) ?_
  rintro _ w1 ⟨b2, rfl, hs5, hb4, he3⟩
  have ge_b2 : w.heap.size ≤ b2 := by rw [hs5]; exact hE.size
  replace hE := Below.ext hE hE.size he3
  refine RL.run rfl rfl (by decide) (h_box (vv := (.agg #[(.bool (sy)), vy])) (cs := [(.bool (sy)), vy]) (hF0 1) rfl) ?_
  rintro _ w6 ⟨b7, rfl, hs10, hb9, he8⟩
  have lt_b2_b7 := Nat.lt_of_lt_of_eq hb4.lt hs10.symm
  have ge_b7 : w.heap.size ≤ b7 := by rw [hs10]; exact hE.size
  replace hE := Below.ext hE hE.size he8
  refine RL.run rfl rfl (by decide) (h_alloc (cs := [(.bool false), (.slice none 0 0)]) ty40 rfl) ?_
  rintro _ w11 ⟨b12, rfl, hs15, hb14, he13⟩
  have lt_b7_b12 := Nat.lt_of_lt_of_eq hb9.lt hs15.symm
  have ge_b12 : w.heap.size ≤ b12 := by rw [hs15]; exact hE.size
  replace hE := Below.ext hE hE.size he13
  refine RL.nil ?_
  refine wseq ?_
  refine wdraw mixed fun w16 he17 => ?_
  replace hE := Below.ext hE hE.size he17
  have hm19 := Ext.trans he8 (Ext.trans he13 he17)
  replace hb4 := hb4.ext hm19
  have hc18 := hb4.cells (o := 0) (cs := [(.bool (sx)), vx]) rfl
  refine RA.rd 0 rfl (by kernel_rfl) rfl rfl rfl (by decide) (Ext.refl _) (fun u hu => r_loada (o := 0) (cs := [(.bool (sx)), vx]) Try.underlying40 ag40 ty40 rfl (fun j v hj => cell_ext hu (hc18 j v hj))) ?_
  replace hb9 := hb9.ext (Ext.trans he13 he17)
  have hc20 := hb9.cells (o := 0) (cs := [(.bool (sy)), vy]) rfl
  refine RA.rd 1 rfl (by kernel_rfl) rfl rfl rfl (by decide) (Ext.refl _) (fun u hu => r_loada (o := 0) (cs := [(.bool (sy)), vy]) Try.underlying40 ag40 ty40 rfl (fun j v hj => cell_ext hu (hc20 j v hj))) ?_
  refine RA.all [2] (by kernel_rfl) rfl ?_
  have hm26 := Ext.trans he3 (Ext.trans he8 (Ext.trans he13 he17))
  replace hy := hy.tr (Sm.ext hm26)
  refine RS.call rfl rfl rfl (by decide) (r_call (vl := [(.agg #[(.bool (sy)), vy])]) ent45 rfl) (r02_neg hy (by assumption) (by first | omega | simp) (show sg sy (val y) = zy from ey)) ?_ RS.nil
  rintro _ w21 ⟨⟨vr23, rfl, hr24, hl25⟩, he22⟩
  refine ⟨.inr (.inr he22), RA.more (S' := fun u => Ext _ u) (fun u hu => Ext.trans he22 hu) ?_⟩
  replace hr24 := hr24.mono (D' := fun b T => w.heap.size ≤ b ∧ T = 52) (fun b T h => ⟨Nat.le_trans hE.size h.1, h.2⟩)
  replace hE := Below.ext hE hE.size he22
  refine RA.all [3] (by kernel_rfl) rfl ?_
  have hm32 := Ext.trans hm26 he22
  replace hx := hx.tr (Sm.ext hm32)
  refine RS.call rfl rfl rfl (by decide) (r_call (vl := [(.agg #[(.bool (sx)), vx]), (.agg #[(.bool (decide ((-zy) < 0))), vr23])]) ent55 rfl) (r02_add hx (by assumption) (by first | omega | simp) (show sg sx (val x) = zx from ex) hr24 (digs_lm _) (by first | omega | simp) (sg_canon _)) ?_ RS.nil
  rintro _ w27 ⟨⟨vr29, rfl, hr30, hl31⟩, he28⟩
  refine ⟨.inr (.inr he28), RA.more (S' := fun u => Ext _ u) (fun u hu => Ext.trans he28 hu) ?_⟩
  replace hr30 := hr30.mono (D' := fun b T => w.heap.size ≤ b ∧ T = 52) (fun b T h => ⟨Nat.le_trans hE.size h.1, h.2⟩)
  replace hE := Below.ext hE hE.size he28
  refine RA.all [4] (by kernel_rfl) rfl ?_
  have hm37 := Ext.trans he17 (Ext.trans he22 he28)
  replace hb14 := hb14.ext hm37
  refine RS.runs rfl rfl rfl (h_store (vv := (.agg #[(.bool (decide ((zx + (-zy)) < 0))), vr29])) (cs := [(.bool (decide ((zx + (-zy)) < 0))), vr29]) (o := 0) ty40 rfl rfl rfl rfl (one_cons rfl (one_cons hr30.one one_nil)) hb14 (Nat.le_of_ble_eq_true rfl)) ?_ RS.nil
  rintro w33 ⟨hn34, hx35, hz36⟩
  refine ⟨.inr (.inl (by kernel_rfl)), ?_⟩
  replace hE := Below.exc hE hE.size hx35 ge_b12
  have nb_hx35 := (Nb.of hb14 (nu_cons rfl (nu_cons rfl nu_nil)))
  replace hb14 : Bk w33 b12 40 [(.bool (decide ((zx + (-zy)) < 0))), vr29] := hn34
  refine RA.done (by kernel_rfl) ?_
  refine wret ?_
  refine ⟨[(.agg #[(.bool (decide ((zx + (-zy)) < 0))), vr29])], ⟨⟨_, _, [(.bool (decide ((zx + (-zy)) < 0))), vr29], rfl, ⟨_, Try.underlying40⟩, hb14.cells rfl, .inl ⟨ag40, ⟨_, _, ty40⟩, rfl⟩⟩, trivial⟩, ?_⟩
  rw [← Int.sub_eq_add_neg] at *
  replace hr30 := hr30.apn hx35 nb_hx35
  exact ⟨⟨_, rfl, hr30, by omega⟩, hE⟩

set_option maxHeartbeats 1000000 in
theorem r02_mul {w : World} {sx : Bool} {Dx : Nat → TypeId → Prop} {vx : Value} {x : List Nat} (hx : Sg (gN .u32) Dx w vx x) (lmx : Lm x) (lnx : x.length ≤ 274877906944) {zx : Int} (ex : sg sx (val x) = zx) {sy : Bool} {Dy : Nat → TypeId → Prop} {vy : Value} {y : List Nat} (hy : Sg (gN .u32) Dy w vy y) (lmy : Lm y) (lny : y.length ≤ 274877906944) {zy : Int} (ey : sg sy (val y) = zy) :
    Calls Try.prog 37 #[(.agg #[(.bool (sx)), vx]), (.agg #[(.bool (sy)), vy])] w fun e w' => ∃ v, e = .returned v ∧ (∃ vr, v = .agg #[.bool (decide ((zx * zy) < 0)), vr] ∧ Sg (gN .u32) (fun b T => w.heap.size ≤ b ∧ T = 52) w' vr (digs (zx * zy).natAbs) ∧ (digs (zx * zy).natAbs).length ≤ x.length + y.length) ∧ Ext w w' := by
  have hE : Below w.heap.size w w := Below.refl _ _
  have hlzx := il_le lmx ex
  have hlzy := il_le lmy ey
  refine calls_of (n := 16) (rs := [.cell 4 40]) Try.func37 rfl rfl rfl (Nat.le_of_ble_eq_true rfl) ?_
  refine wset fun F0 hF0 => ?_
  refine wseq ?_
  refine wregion ?_
  refine RL.run rfl rfl (by decide) (h_box (vv := (.agg #[(.bool (sx)), vx])) (cs := [(.bool (sx)), vx]) (hF0 0) rfl) ?_
  rintro _ w1 ⟨b2, rfl, hs5, hb4, he3⟩
  have ge_b2 : w.heap.size ≤ b2 := by rw [hs5]; exact hE.size
  replace hE := Below.ext hE hE.size he3
  refine RL.run rfl rfl (by decide) (h_box (vv := (.agg #[(.bool (sy)), vy])) (cs := [(.bool (sy)), vy]) (hF0 1) rfl) ?_
  rintro _ w6 ⟨b7, rfl, hs10, hb9, he8⟩
  have lt_b2_b7 := Nat.lt_of_lt_of_eq hb4.lt hs10.symm
  have ge_b7 : w.heap.size ≤ b7 := by rw [hs10]; exact hE.size
  replace hE := Below.ext hE hE.size he8
  refine RL.run rfl rfl (by decide) (h_alloc (cs := [(.bool false), (.slice none 0 0)]) ty40 rfl) ?_
  rintro _ w11 ⟨b12, rfl, hs15, hb14, he13⟩
  have lt_b7_b12 := Nat.lt_of_lt_of_eq hb9.lt hs15.symm
  have ge_b12 : w.heap.size ≤ b12 := by rw [hs15]; exact hE.size
  replace hE := Below.ext hE hE.size he13
  refine RL.nil ?_
  refine wseq ?_
  refine wdraw mixed fun w16 he17 => ?_
  replace hE := Below.ext hE hE.size he17
  refine RA.take 0 rfl (by kernel_rfl) rfl rfl (by decide) (fun _ => r_fieldAddr Try.underlying40 rfl ty4 rfl) ?_
  have hm19 := Ext.trans he8 (Ext.trans he13 he17)
  replace hb4 := hb4.ext hm19
  have hc18 := hb4.cell (j := 0) (u := (.bool (sx))) rfl
  refine RA.rd 1 rfl (by kernel_rfl) rfl rfl rfl (by decide) (Ext.refl _) (fun u hu => r_load (v := (.bool (sx))) Try.underlying4 ag4 rfl (cell_ext hu hc18)) ?_
  refine RA.take 2 rfl (by kernel_rfl) rfl rfl (by decide) (fun _ => r_fieldAddr Try.underlying40 rfl ty4 rfl) ?_
  replace hb9 := hb9.ext (Ext.trans he13 he17)
  have hc20 := hb9.cell (j := 0) (u := (.bool (sy))) rfl
  refine RA.rd 3 rfl (by kernel_rfl) rfl rfl rfl (by decide) (Ext.refl _) (fun u hu => r_load (v := (.bool (sy))) Try.underlying4 ag4 rfl (cell_ext hu hc20)) ?_
  refine RA.take 4 rfl (by kernel_rfl) rfl rfl (by decide) (fun _ => r_neqb Try.underlying4 rfl rfl) ?_
  refine RA.take 5 rfl (by kernel_rfl) rfl rfl (by decide) (fun _ => r_fieldAddr Try.underlying40 rfl ty38 rfl) ?_
  have hc21 := hb4.cell (j := 1) (u := vx) rfl
  refine RA.rd 6 rfl (by kernel_rfl) rfl rfl rfl (by decide) (Ext.refl _) (fun u hu => r_load (v := vx) Try.underlying38 ag38 rfl (cell_ext hu hc21)) ?_
  refine RA.take 7 rfl (by kernel_rfl) rfl rfl (by decide) (fun _ => r_fieldAddr Try.underlying40 rfl ty38 rfl) ?_
  have hc22 := hb9.cell (j := 1) (u := vy) rfl
  refine RA.rd 8 rfl (by kernel_rfl) rfl rfl rfl (by decide) (Ext.refl _) (fun u hu => r_load (v := vy) Try.underlying38 ag38 rfl (cell_ext hu hc22)) ?_
  refine RA.all [9] (by kernel_rfl) rfl ?_
  have hm27 := Ext.trans he3 (Ext.trans he8 (Ext.trans he13 he17))
  replace hx := hx.tr (Sm.ext hm27)
  replace hy := hy.tr (Sm.ext hm27)
  refine RS.call rfl rfl rfl (by decide) (r_call (vl := [vx, vy]) ent52 rfl) (r01_mul hx (by assumption) (by first | omega | simp) hy (by assumption) (by first | omega | simp)) ?_ RS.nil
  rintro vr25 w23 ⟨hr26, he24⟩
  refine ⟨.inr (.inr he24), RA.more (S' := fun u => Ext _ u) (fun u hu => Ext.trans he24 hu) ?_⟩
  replace hr26 := hr26.mono (D' := fun b T => w.heap.size ≤ b ∧ T = 52) (fun b T h => ⟨Nat.le_trans hE.size h.1, h.2⟩)
  replace hE := Below.ext hE hE.size he24
  have hlv28 := dl_val (x := x) (by assumption)
  have hlv29 := dl_val (x := y) (by assumption)
  have hlv30 := dl_mul (val x) (val y)
  refine RA.all [10] (by kernel_rfl) rfl ?_
  refine RS.call rfl rfl rfl (by decide) (r_call (vl := [(.bool (sx != sy)), vr25]) ent46 rfl) (r02_make hr26 (digs_lm _) (by first | omega | simp) (show sg (sx != sy) (val (digs ((val x) * (val y)))) = zx * zy from (by rw [val_digs, sg_mul, ex, ey]))) ?_ RS.nil
  rintro _ w31 ⟨⟨vr33, rfl, hr34, hl35⟩, he32⟩
  refine ⟨.inr (.inr he32), RA.more (S' := fun u => Ext _ u) (fun u hu => Ext.trans he32 hu) ?_⟩
  replace hr34 := hr34.mono (D' := fun b T => w.heap.size ≤ b ∧ T = 52) (fun b T h => ⟨Nat.le_trans hE.size h.1, h.2⟩)
  replace hE := Below.ext hE hE.size he32
  refine RA.all [11] (by kernel_rfl) rfl ?_
  have hm40 := Ext.trans he17 (Ext.trans he24 he32)
  replace hb14 := hb14.ext hm40
  refine RS.runs rfl rfl rfl (h_store (vv := (.agg #[(.bool (decide ((zx * zy) < 0))), vr33])) (cs := [(.bool (decide ((zx * zy) < 0))), vr33]) (o := 0) ty40 rfl rfl rfl rfl (one_cons rfl (one_cons hr34.one one_nil)) hb14 (Nat.le_of_ble_eq_true rfl)) ?_ RS.nil
  rintro w36 ⟨hn37, hx38, hz39⟩
  refine ⟨.inr (.inl (by kernel_rfl)), ?_⟩
  replace hE := Below.exc hE hE.size hx38 ge_b12
  have nb_hx38 := (Nb.of hb14 (nu_cons rfl (nu_cons rfl nu_nil)))
  replace hb14 : Bk w36 b12 40 [(.bool (decide ((zx * zy) < 0))), vr33] := hn37
  refine RA.done (by kernel_rfl) ?_
  refine wret ?_
  refine ⟨[(.agg #[(.bool (decide ((zx * zy) < 0))), vr33])], ⟨⟨_, _, [(.bool (decide ((zx * zy) < 0))), vr33], rfl, ⟨_, Try.underlying40⟩, hb14.cells rfl, .inl ⟨ag40, ⟨_, _, ty40⟩, rfl⟩⟩, trivial⟩, ?_⟩
  replace hr34 := hr34.apn hx38 nb_hx38
  exact ⟨⟨_, rfl, hr34, (by omega)⟩, hE⟩

set_option maxHeartbeats 1000000 in
theorem r02_gcd {w : World} {sx : Bool} {Dx : Nat → TypeId → Prop} {vx : Value} {x : List Nat} (hx : Sg (gN .u32) Dx w vx x) (lmx : Lm x) (lnx : x.length ≤ 274877906944) {zx : Int} (ex : sg sx (val x) = zx) {sy : Bool} {Dy : Nat → TypeId → Prop} {vy : Value} {y : List Nat} (hy : Sg (gN .u32) Dy w vy y) (lmy : Lm y) (lny : y.length ≤ 274877906944) {zy : Int} (ey : sg sy (val y) = zy) :
    Calls Try.prog 43 #[(.agg #[(.bool (sx)), vx]), (.agg #[(.bool (sy)), vy])] w fun e w' => ∃ v, e = .returned v ∧ (∃ vr, v = .agg #[.bool (decide (((Int.gcd zx zy : Nat) : Int) < 0)), vr] ∧ Sg (gN .u32) (fun b T => w.heap.size ≤ b ∧ T = 52) w' vr (digs ((Int.gcd zx zy : Nat) : Int).natAbs) ∧ (digs ((Int.gcd zx zy : Nat) : Int).natAbs).length ≤ max x.length y.length) ∧ Ext w w' := by
  have hE : Below w.heap.size w w := Below.refl _ _
  have hlzx := il_le lmx ex
  have hlzy := il_le lmy ey
  refine calls_of (n := 11) (rs := [.cell 4 40]) Try.func43 rfl rfl rfl (Nat.le_of_ble_eq_true rfl) ?_
  refine wset fun F0 hF0 => ?_
  refine wseq ?_
  refine wregion ?_
  refine RL.run rfl rfl (by decide) (h_box (vv := (.agg #[(.bool (sx)), vx])) (cs := [(.bool (sx)), vx]) (hF0 0) rfl) ?_
  rintro _ w1 ⟨b2, rfl, hs5, hb4, he3⟩
  have ge_b2 : w.heap.size ≤ b2 := by rw [hs5]; exact hE.size
  replace hE := Below.ext hE hE.size he3
  refine RL.run rfl rfl (by decide) (h_box (vv := (.agg #[(.bool (sy)), vy])) (cs := [(.bool (sy)), vy]) (hF0 1) rfl) ?_
  rintro _ w6 ⟨b7, rfl, hs10, hb9, he8⟩
  have lt_b2_b7 := Nat.lt_of_lt_of_eq hb4.lt hs10.symm
  have ge_b7 : w.heap.size ≤ b7 := by rw [hs10]; exact hE.size
  replace hE := Below.ext hE hE.size he8
  refine RL.run rfl rfl (by decide) (h_alloc (cs := [(.bool false), (.slice none 0 0)]) ty40 rfl) ?_
  rintro _ w11 ⟨b12, rfl, hs15, hb14, he13⟩
  have lt_b7_b12 := Nat.lt_of_lt_of_eq hb9.lt hs15.symm
  have ge_b12 : w.heap.size ≤ b12 := by rw [hs15]; exact hE.size
  replace hE := Below.ext hE hE.size he13
  refine RL.nil ?_
  refine wseq ?_
  refine wregion ?_
  refine RL.val rfl rfl (by decide) (r_fieldAddr Try.underlying40 rfl ty38 rfl) ?_
  replace hb4 := hb4.ext (Ext.trans he8 he13)
  have hc16 := hb4.cell (j := 1) (u := vx) rfl
  refine RL.val rfl rfl (by decide) (r_load (v := vx) Try.underlying38 ag38 rfl hc16) ?_
  refine RL.val rfl rfl (by decide) (r_fieldAddr Try.underlying40 rfl ty38 rfl) ?_
  replace hb9 := hb9.ext he13
  have hc17 := hb9.cell (j := 1) (u := vy) rfl
  refine RL.val rfl rfl (by decide) (r_load (v := vy) Try.underlying38 ag38 rfl hc17) ?_
  have hm22 := Ext.trans he3 (Ext.trans he8 he13)
  replace hx := hx.tr (Sm.ext hm22)
  replace hy := hy.tr (Sm.ext hm22)
  refine RL.call rfl rfl (by decide) (r_call (vl := [vx, vy]) ent53 rfl) (r01_gcd hx (by assumption) (by first | omega | simp) hy (by assumption) (by first | omega | simp)) ?_
  rintro vr20 w18 ⟨hr21, he19⟩
  replace hr21 := hr21.mono (D' := fun b T => w.heap.size ≤ b ∧ T = 52) (fun b T h => ⟨Nat.le_trans hE.size h.1, h.2⟩)
  replace hE := Below.ext hE hE.size he19
  have hlv23 := dl_val (x := x) (by assumption)
  have hlv24 := dl_val (x := y) (by assumption)
  have hlv25 := dl_gcd (val x) (val y)
  refine RL.call rfl rfl (by decide) (r_call (vl := [(.bool (false)), vr20]) ent46 rfl) (r02_make hr21 (digs_lm _) (by first | omega | simp) (show sg false (val (digs (Nat.gcd (val x) (val y)))) = ((Int.gcd zx zy : Nat) : Int) from (by rw [val_digs, sg_f, ← ex, ← ey]; unfold Int.gcd; rw [sg_abs, sg_abs]))) ?_
  rintro _ w26 ⟨⟨vr28, rfl, hr29, hl30⟩, he27⟩
  replace hr29 := hr29.mono (D' := fun b T => w.heap.size ≤ b ∧ T = 52) (fun b T h => ⟨Nat.le_trans hE.size h.1, h.2⟩)
  replace hE := Below.ext hE hE.size he27
  replace hb14 := hb14.ext (Ext.trans he19 he27)
  refine RL.runs rfl rfl (h_store (vv := (.agg #[(.bool (decide (((Int.gcd zx zy : Nat) : Int) < 0))), vr28])) (cs := [(.bool (decide (((Int.gcd zx zy : Nat) : Int) < 0))), vr28]) (o := 0) ty40 rfl rfl rfl rfl (one_cons rfl (one_cons hr29.one one_nil)) hb14 (Nat.le_of_ble_eq_true rfl)) ?_
  rintro w31 ⟨hn32, hx33, hz34⟩
  replace hE := Below.exc hE hE.size hx33 ge_b12
  have nb_hx33 := (Nb.of hb14 (nu_cons rfl (nu_cons rfl nu_nil)))
  replace hb14 : Bk w31 b12 40 [(.bool (decide (((Int.gcd zx zy : Nat) : Int) < 0))), vr28] := hn32
  refine RL.nil ?_
  refine wret ?_
  refine ⟨[(.agg #[(.bool (decide (((Int.gcd zx zy : Nat) : Int) < 0))), vr28])], ⟨⟨_, _, [(.bool (decide (((Int.gcd zx zy : Nat) : Int) < 0))), vr28], rfl, ⟨_, Try.underlying40⟩, hb14.cells rfl, .inl ⟨ag40, ⟨_, _, ty40⟩, rfl⟩⟩, trivial⟩, ?_⟩
  replace hr29 := hr29.apn hx33 nb_hx33
  exact ⟨⟨_, rfl, hr29, (by omega)⟩, hE⟩

end Go.Proofs.Ytppgppnkhpjlpaa
