/- Walks, printed by program. -/
import Derived.Test.YtppgppnkhpjlpaaRg
import Derived.Test.YtppgppnkhpjlpaaVgl
namespace Go.Proofs.Ytppgppnkhpjlpaa
open Go.Vg Go.RowKit
set_option linter.unusedVariables false

open Go.Vm

theorem agg3 {b c : Bool} {v u : Value} (h : b = c) : Value.agg #[.bool b, v, u] = .agg #[.bool c, v, u] := by rw [h]
def cmpQ (a b : Rat) : Int := if a < b then -1 else if b < a then 1 else 0
def absQ (a : Rat) : Rat := if a < 0 then -a else a
theorem num_neg_iff (q : Rat) : q.num < 0 ↔ q < 0 := by
  have := Rat.num_nonneg (q := q)
  constructor
  · intro h; rcases Rat.le_total (a := 0) (b := q) with h1 | h1
    · have := this.2 h1; omega
    · rcases Classical.em (q = 0) with h2 | h2
      · rw [h2] at h; exact absurd h (by decide)
      · grind
  · intro h
    rcases Int.lt_or_le q.num 0 with h1 | h1
    · exact h1
    · have := this.1 h1; grind
theorem sign_lt (q : Rat) : Int.sign q.num < 0 ↔ q < 0 := by rw [← num_neg_iff]; exact Int.sign_neg_iff
theorem sign_eq (q : Rat) : Int.sign q.num = 0 ↔ q = 0 := by rw [← Rat.num_eq_zero]; exact Int.sign_eq_zero_iff_zero
theorem cmp_sign (a b : Rat) : Int.sign (a - b).num = cmpQ a b := by
  unfold cmpQ
  split
  · rename_i h
    exact Int.sign_eq_neg_one_of_neg ((num_neg_iff _).2 (by grind))
  · rename_i h
    split
    · rename_i h2
      have h3 : ¬ (a - b).num < 0 := fun h4 => by have := (num_neg_iff _).1 h4; grind
      have h4 : (a - b).num ≠ 0 := fun h5 => by have := Rat.num_eq_zero.1 h5; grind
      exact Int.sign_eq_one_of_pos (by omega)
    · exact (sign_eq _).2 (by grind)

set_option maxHeartbeats 1000000 in
theorem r03_zero {w : World} :
    Calls Try.prog 13 #[] w fun e w' => ∃ v, e = .returned v ∧ (∃ vn vd, v = .agg #[.bool (decide ((0 : Rat).num < 0)), vn, vd] ∧ Sg (gN .u32) (fun b T => w.heap.size ≤ b ∧ T = 52) w' vn (digs (0 : Rat).num.natAbs) ∧ Sg (gN .u32) (fun b T => w.heap.size ≤ b ∧ T = 52) w' vd (digs (0 : Rat).den) ∧ (digs (0 : Rat).num.natAbs).length ≤ 0 ∧ (digs (0 : Rat).den).length ≤ 1) ∧ Ext w w' := by
  have hE : Below w.heap.size w w := Below.refl _ _
  refine calls_of (n := 5) (rs := [.cell 0 42]) Try.func13 rfl rfl rfl (Nat.le_of_ble_eq_true rfl) ?_
  refine wset fun F0 hF0 => ?_
  refine wseq ?_
  refine wregion ?_
  refine RL.run rfl rfl (by decide) (h_alloc (cs := [(.bool false), (.slice none 0 0), (.slice none 0 0)]) ty42 rfl) ?_
  rintro _ w1 ⟨b2, rfl, hs5, hb4, he3⟩
  have ge_b2 : w.heap.size ≤ b2 := by rw [hs5]; exact hE.size
  replace hE := Below.ext hE hE.size he3
  refine RL.nil ?_
  refine wseq ?_
  refine wregion ?_
  refine RL.run rfl rfl (by decide) (h_lit (vl := []) (cs := []) Try.underlying38 ty52 rfl (by decide) (by first | (simp [Instr.fill, Value.cells]; done) | rfl | kernel_rfl)) ?_
  rintro _ w6 ⟨b7, rfl, hs10, hb9, he8⟩
  have lt_b2_b7 := Nat.lt_of_lt_of_eq hb4.lt hs10.symm
  have ge_b7 : w.heap.size ≤ b7 := by rw [hs10]; exact hE.size
  replace hE := Below.ext hE hE.size he8
  refine RL.val rfl rfl (by decide) (r_build (vl := [(1, (.slice (some ⟨b7, 0, none⟩) (0) (0)))]) (cs := [(.bool false), (.slice (some ⟨b7, 0, none⟩) (0) (0))]) Try.underlying40 ty40 rfl pl40 rfl) ?_
  refine RL.run rfl rfl (by decide) (h_lit (vl := [(0, (.int .u32 (1)))]) (cs := [(.int .u32 (1))]) Try.underlying38 ty52 rfl (by decide) (by first | (simp [Instr.fill, Value.cells]; done) | rfl | kernel_rfl)) ?_
  rintro _ w11 ⟨b12, rfl, hs15, hb14, he13⟩
  have lt_b7_b12 := Nat.lt_of_lt_of_eq hb9.lt hs15.symm
  have ge_b12 : w.heap.size ≤ b12 := by rw [hs15]; exact hE.size
  replace hE := Below.ext hE hE.size he13
  refine RL.val rfl rfl (by decide) (r_build (vl := [(0, (.agg #[(.bool false), (.slice (some ⟨b7, 0, none⟩) (0) (0))])), (1, (.slice (some ⟨b12, 0, none⟩) (1) (1)))]) (cs := [(.bool false), (.slice (some ⟨b7, 0, none⟩) (0) (0)), (.slice (some ⟨b12, 0, none⟩) (1) (1))]) Try.underlying42 ty42 rfl pl42 rfl) ?_
  replace hb4 := hb4.ext (Ext.trans he8 he13)
  refine RL.runs rfl rfl (h_store (vv := (.agg #[(.bool false), (.slice (some ⟨b7, 0, none⟩) (0) (0)), (.slice (some ⟨b12, 0, none⟩) (1) (1))])) (cs := [(.bool false), (.slice (some ⟨b7, 0, none⟩) (0) (0)), (.slice (some ⟨b12, 0, none⟩) (1) (1))]) (o := 0) ty42 rfl rfl rfl rfl (one_cons rfl (one_cons rfl (one_cons rfl one_nil))) hb4 (Nat.le_of_ble_eq_true rfl)) ?_
  rintro w16 ⟨hn17, hx18, hz19⟩
  replace hE := Below.exc hE hE.size hx18 ge_b2
  have nb_hx18 := (Nb.of hb4 (nu_cons rfl (nu_cons rfl (nu_cons rfl nu_nil))))
  replace hb4 : Bk w16 b2 42 [(.bool false), (.slice (some ⟨b7, 0, none⟩) (0) (0)), (.slice (some ⟨b12, 0, none⟩) (1) (1))] := hn17
  refine RL.nil ?_
  refine wret ?_
  refine ⟨[(.agg #[(.bool false), (.slice (some ⟨b7, 0, none⟩) (0) (0)), (.slice (some ⟨b12, 0, none⟩) (1) (1))])], ⟨⟨_, _, [(.bool false), (.slice (some ⟨b7, 0, none⟩) (0) (0)), (.slice (some ⟨b12, 0, none⟩) (1) (1))], rfl, ⟨_, Try.underlying42⟩, hb4.cells rfl, .inl ⟨ag42, ⟨_, _, ty42⟩, rfl⟩⟩, trivial⟩, ?_⟩
  replace hb9 := (hb9.ext he13).exc hx18 (Nat.ne_of_gt lt_b2_b7)
  replace hb14 := hb14.exc hx18 (Nat.ne_of_gt (Nat.lt_trans lt_b2_b7 lt_b7_b12))
  exact ⟨⟨_, _, rfl, hb9.sg (g := gN .u32) (D := (fun b T => w.heap.size ≤ b ∧ T = 52)) (xs := []) ⟨ge_b7, rfl⟩ rfl rfl (by decide), hb14.sg (g := gN .u32) (D := (fun b T => w.heap.size ≤ b ∧ T = 52)) (xs := [1]) ⟨ge_b12, rfl⟩ rfl rfl (by decide), Nat.zero_le _, Nat.le_refl _⟩, hE⟩

set_option maxHeartbeats 4000000 in
theorem r03_make {w : World} {sx : Bool} {Dx : Nat → TypeId → Prop} {vx : Value} {x : List Nat} (hx : Sg (gN .u32) Dx w vx x) (lmx : Lm x) (lnx : x.length ≤ 274877906944) {zx : Int} (ex : sg sx (val x) = zx) {sy : Bool} {Dy : Nat → TypeId → Prop} {vy : Value} {y : List Nat} (hy : Sg (gN .u32) Dy w vy y) (lmy : Lm y) (lny : y.length ≤ 274877906944) {zy : Int} (ey : sg sy (val y) = zy) :
    Calls Try.prog 25 #[(.agg #[(.bool (sx)), vx]), (.agg #[(.bool (sy)), vy])] w fun e w' => ∃ v, e = .returned v ∧ (∃ vn vd, v = .agg #[.bool (decide ((Rat.divInt zx zy).num < 0)), vn, vd] ∧ Sg (gN .u32) (fun b T => w.heap.size ≤ b ∧ T = 52) w' vn (digs (Rat.divInt zx zy).num.natAbs) ∧ Sg (gN .u32) (fun b T => w.heap.size ≤ b ∧ T = 52) w' vd (digs (Rat.divInt zx zy).den) ∧ (digs (Rat.divInt zx zy).num.natAbs).length ≤ x.length ∧ (digs (Rat.divInt zx zy).den).length ≤ y.length + 1) ∧ Ext w w' := by
  have hE : Below w.heap.size w w := Below.refl _ _
  have hlzx := il_le lmx ex
  have hlzy := il_le lmy ey
  refine calls_of (n := 60) (rs := [.cell 4 42]) Try.func25 rfl rfl rfl (Nat.le_of_ble_eq_true rfl) ?_
  refine wset fun F0 hF0 => ?_
  refine wseq ?_
  refine wregion ?_
  refine RL.run rfl rfl (by decide) (h_box (vv := (.agg #[(.bool (sx)), vx])) (cs := [(.bool (sx)), vx]) (hF0 0) rfl) ?_
  rintro _ w1 ⟨b2, rfl, hs5, hb4, he3⟩
  have ge_b2 : w.heap.size ≤ b2 := by rw [hs5]; exact hE.size
  replace hE := Below.ext hE hE.size he3
  refine RL.run rfl rfl (by decide) (h_box (vv := (.agg #[(.bool (sy)), vy])) (cs := [(.bool (sy)), vy]) (hF0 1) rfl) ?_
  rintro _ w6 ⟨b7, rfl, hs10, hb9, he8⟩
  have lt_b2_b7 := Nat.lt_of_lt_of_eq hb4.lt hs10.symm
  have ge_b7 : w.heap.size ≤ b7 := by rw [hs10]; exact hE.size
  replace hE := Below.ext hE hE.size he8
  refine RL.run rfl rfl (by decide) (h_alloc (cs := [(.bool false), (.slice none 0 0), (.slice none 0 0)]) ty42 rfl) ?_
  rintro _ w11 ⟨b12, rfl, hs15, hb14, he13⟩
  have lt_b7_b12 := Nat.lt_of_lt_of_eq hb9.lt hs15.symm
  have ge_b12 : w.heap.size ≤ b12 := by rw [hs15]; exact hE.size
  replace hE := Below.ext hE hE.size he13
  refine RL.nil ?_
  refine wseq ?_
  refine wseq ?_
  refine wregion ?_
  replace hb9 := hb9.ext he13
  have hc16 := hb9.cells (o := 0) (cs := [(.bool (sy)), vy]) rfl
  refine RL.val rfl rfl (by decide) (r_loada (o := 0) (cs := [(.bool (sy)), vy]) Try.underlying40 ag40 ty40 rfl hc16) ?_
  have hm19 := Ext.trans he3 (Ext.trans he8 he13)
  replace hy := hy.tr (Sm.ext hm19)
  refine RL.call rfl rfl (by decide) (r_call (vl := [(.agg #[(.bool (sy)), vy])]) ent40 rfl) (r02_sign hy (by assumption) (by first | omega | simp) (show sg sy (val y) = zy from ey)) ?_
  rintro _ w17 ⟨rfl, he18⟩
  replace hE := Below.ext hE hE.size he18
  refine RL.val rfl rfl (by decide) (r_eql (k := .i64) (a := Int.sign zy) (b := 0) rfl rfl) ?_
  refine RL.nil ?_
  refine wcond (b := decide ((Int.sign zy) = 0)) rfl (fun hb20 => ?_) (fun hb20 => ?_)
  · have hb20p := hb20
    replace hb20p := of_decide_eq_true hb20p
    have hy0 : zy = 0 := Int.sign_eq_zero_iff_zero.1 hb20p
    refine wseq ?_
    refine wregion ?_
    refine RL.call rfl rfl (by decide) (r_call (vl := []) ent13 rfl) (r03_zero ) ?_
    rintro _ w21 ⟨⟨vn23, vd25, rfl, hn24, hd26, hl27, hl28⟩, he22⟩
    have hlv29 := den_one (0 : Rat)
    replace hn24 := hn24.mono (D' := fun b T => w.heap.size ≤ b ∧ T = 52) (fun b T h => ⟨Nat.le_trans hE.size h.1, h.2⟩)
    replace hd26 := hd26.mono (D' := fun b T => w.heap.size ≤ b ∧ T = 52) (fun b T h => ⟨Nat.le_trans hE.size h.1, h.2⟩)
    replace hE := Below.ext hE hE.size he22
    replace hb14 := hb14.ext (Ext.trans he18 he22)
    refine RL.runs rfl rfl (h_store (vv := (.agg #[(.bool (decide ((0 : Rat).num < 0))), vn23, vd25])) (cs := [(.bool (decide ((0 : Rat).num < 0))), vn23, vd25]) (o := 0) ty42 rfl rfl rfl rfl (one_cons rfl (one_cons hn24.one (one_cons hd26.one one_nil))) hb14 (Nat.le_of_ble_eq_true rfl)) ?_
    rintro w30 ⟨hn31, hx32, hz33⟩
    replace hE := Below.exc hE hE.size hx32 ge_b12
    have nb_hx32 := (Nb.of hb14 (nu_cons rfl (nu_cons rfl (nu_cons rfl nu_nil))))
    replace hb14 : Bk w30 b12 42 [(.bool (decide ((0 : Rat).num < 0))), vn23, vd25] := hn31
    refine RL.nil ?_
    refine wret ?_
    refine ⟨[(.agg #[(.bool (decide ((0 : Rat).num < 0))), vn23, vd25])], ⟨⟨_, _, [(.bool (decide ((0 : Rat).num < 0))), vn23, vd25], rfl, ⟨_, Try.underlying42⟩, hb14.cells rfl, .inl ⟨ag42, ⟨_, _, ty42⟩, rfl⟩⟩, trivial⟩, ?_⟩
    have hq : Rat.divInt zx zy = 0 := by rw [hy0, Rat.divInt_zero]
    rw [hq]
    replace hn24 := hn24.apn hx32 nb_hx32
    replace hd26 := hd26.apn hx32 nb_hx32
    exact ⟨⟨_, _, rfl, hn24, hd26, by omega, by omega⟩, hE⟩
  · have hb20p := hb20
    replace hb20p := of_decide_eq_false hb20p
    have hy0 : zy ≠ 0 := fun h => hb20p (Int.sign_eq_zero_iff_zero.2 h)
    have hlaw := make_law (zx := zx) hy0
    refine wskip ?_
    refine wseq ?_
    refine wseq ?_
    refine wregion ?_
    replace hb9 := hb9.ext he18
    have hc34 := hb9.cells (o := 0) (cs := [(.bool (sy)), vy]) rfl
    refine RL.val rfl rfl (by decide) (r_loada (o := 0) (cs := [(.bool (sy)), vy]) Try.underlying40 ag40 ty40 rfl hc34) ?_
    replace hy := hy.tr (Sm.ext he18)
    refine RL.call rfl rfl (by decide) (r_call (vl := [(.agg #[(.bool (sy)), vy])]) ent41 rfl) (r02_norm hy (by assumption) (by first | omega | simp) (show sg sy (val y) = zy from ey)) ?_
    rintro _ w35 ⟨⟨vr37, rfl, hr38, hl39⟩, he36⟩
    replace hr38 := hr38.mono (D' := fun b T => w.heap.size ≤ b ∧ T = 52) (fun b T h => ⟨Nat.le_trans hE.size h.1, h.2⟩)
    replace hE := Below.ext hE hE.size he36
    refine RL.run rfl rfl (by decide) (h_alloc (cs := [(.bool false), (.slice none 0 0)]) ty40 rfl) ?_
    rintro _ w40 ⟨b41, rfl, hs44, hb43, he42⟩
    replace hb14 := hb14.ext (Ext.trans he18 he36)
    have lt_b12_b41 := Nat.lt_of_lt_of_eq hb14.lt hs44.symm
    have ge_b41 : w.heap.size ≤ b41 := by rw [hs44]; exact hE.size
    replace hE := Below.ext hE hE.size he42
    refine RL.runs rfl rfl (h_store (vv := (.agg #[(.bool (decide (zy < 0))), vr37])) (cs := [(.bool (decide (zy < 0))), vr37]) (o := 0) ty40 rfl rfl rfl rfl (one_cons rfl (one_cons hr38.one one_nil)) hb43 (Nat.le_of_ble_eq_true rfl)) ?_
    rintro w45 ⟨hn46, hx47, hz48⟩
    replace hE := Below.exc hE hE.size hx47 ge_b41
    have nb_hx47 := (Nb.of hb43 (nu_cons rfl (nu_cons rfl nu_nil)))
    replace hb43 : Bk w45 b41 40 [(.bool (decide (zy < 0))), vr37] := hn46
    refine RL.nil ?_
    refine wseq ?_
    refine wregion ?_
    refine RL.val rfl rfl (by decide) (r_fieldAddr Try.underlying40 rfl ty4 rfl) ?_
    have hc49 := hb43.cell (j := 0) (u := (.bool (decide (zy < 0)))) rfl
    refine RL.val rfl rfl (by decide) (r_load (v := (.bool (decide (zy < 0)))) Try.underlying4 ag4 rfl hc49) ?_
    refine RL.val rfl rfl (by decide) (r_not rfl) ?_
    refine RL.val rfl rfl (by decide) (r_move_as (v := (.bool (!(decide (zy < 0))))) rfl) ?_
    rcases Bool.eq_false_or_eq_true (!(decide (zy < 0))) with hb50 | hb50
    · have hb50p := hb50
      have hyp : ¬ zy < 0 := by simpa using hb50
      refine RL.gval rfl rfl (bool_eq hb50) rfl (by decide) (r_fieldAddr Try.underlying40 rfl ty38 rfl) ?_
      have hc51 := hb43.cell (j := 1) (u := vr37) rfl
      refine RL.gval rfl rfl (bool_eq hb50) rfl (by decide) (r_load (v := vr37) Try.underlying38 ag38 rfl hc51) ?_
      refine RL.grun rfl rfl (bool_eq hb50) rfl (by decide) (h_lit (vl := [(0, (.int .u32 (1)))]) (cs := [(.int .u32 (1))]) Try.underlying38 ty52 rfl (by decide) (by first | (simp [Instr.fill, Value.cells]; done) | rfl | kernel_rfl)) ?_
      rintro _ w52 ⟨b53, rfl, hs56, hb55, he54⟩
      have lt_b41_b53 := Nat.lt_of_lt_of_eq hb43.lt hs56.symm
      have ge_b53 : w.heap.size ≤ b53 := by rw [hs56]; exact hE.size
      replace hE := Below.ext hE hE.size he54
      replace hr38 := ((hr38.tr (Sm.ext he42)).apn hx47 nb_hx47).tr (Sm.ext he54)
      refine RL.gcall rfl rfl (bool_eq hb50) rfl (by decide) (r_call (vl := [vr37, (.slice (some ⟨b53, 0, none⟩) (1) (1))]) ent42 rfl) (r01_equal hr38 (hb55.sg (g := gN .u32) (D := fun _ _ => True) (xs := [1]) trivial rfl rfl (by decide))) ?_
      rintro _ w57 ⟨rfl, he58⟩
      replace hE := Below.ext hE hE.size he58
      refine RL.val rfl rfl (by decide) (r_pick_t (v := (.bool (decide ((digs zy.natAbs) = [1])))) (bool_eq hb50) rfl) ?_
      refine RL.nil ?_
      refine wcond (b := decide ((digs zy.natAbs) = [1])) rfl (fun hb59 => ?_) (fun hb59 => ?_)
      · have hb59p := hb59
        replace hb59p := of_decide_eq_true hb59p
        have hyd : digs zy.natAbs = [1] := hb59p
        have hy1 : zy = 1 := by have h1 := congrArg val hyd; rw [val_digs] at h1; simp [val] at h1; omega
        have hya : zy.natAbs = 1 := by omega
        refine wseq ?_
        refine wdraw mixed fun w60 he61 => ?_
        replace hE := Below.ext hE hE.size he61
        have hm63 := Ext.trans he8 (Ext.trans he13 (Ext.trans he18 (Ext.trans he36 he42)))
        have hm64 := Ext.trans he54 (Ext.trans he58 he61)
        replace hb4 := ((hb4.ext hm63).exc hx47 (Nat.ne_of_lt (Nat.lt_trans lt_b2_b7 (Nat.lt_trans lt_b7_b12 lt_b12_b41)))).ext hm64
        have hc62 := hb4.cells (o := 0) (cs := [(.bool (sx)), vx]) rfl
        refine RA.rd 0 rfl (by kernel_rfl) rfl rfl rfl (by decide) (Ext.refl _) (fun u hu => r_loada (o := 0) (cs := [(.bool (sx)), vx]) Try.underlying40 ag40 ty40 rfl (fun j v hj => cell_ext hu (hc62 j v hj))) ?_
        refine RA.take 2 rfl (by kernel_rfl) rfl rfl (by decide) (fun _ => r_fieldAddr Try.underlying40 rfl ty38 rfl) ?_
        replace hb43 := hb43.ext hm64
        have hc65 := hb43.cell (j := 1) (u := vr37) rfl
        refine RA.rd 3 rfl (by kernel_rfl) rfl rfl rfl (by decide) (Ext.refl _) (fun u hu => r_load (v := vr37) Try.underlying38 ag38 rfl (cell_ext hu hc65)) ?_
        refine RA.all [1] (by kernel_rfl) rfl ?_
        have hm71 := Ext.trans he3 (Ext.trans he8 (Ext.trans he13 (Ext.trans he18 (Ext.trans he36 he42))))
        replace hx := ((hx.tr (Sm.ext hm71)).apn hx47 nb_hx47).tr (Sm.ext hm64)
        refine RS.call rfl rfl rfl (by decide) (r_call (vl := [(.agg #[(.bool (sx)), vx])]) ent41 rfl) (r02_norm hx (by assumption) (by first | omega | simp) (show sg sx (val x) = zx from ex)) ?_ RS.nil
        rintro _ w66 ⟨⟨vr68, rfl, hr69, hl70⟩, he67⟩
        refine ⟨.inr (.inr he67), RA.more (S' := fun u => Ext _ u) (fun u hu => Ext.trans he67 hu) ?_⟩
        replace hr69 := hr69.mono (D' := fun b T => w.heap.size ≤ b ∧ T = 52) (fun b T h => ⟨Nat.le_trans hE.size h.1, h.2⟩)
        replace hE := Below.ext hE hE.size he67
        refine RA.take 4 rfl (by kernel_rfl) rfl rfl (by decide) (fun _ => r_build (vl := [(0, (.agg #[(.bool (decide (zx < 0))), vr68])), (1, vr37)]) (cs := [(.bool (decide (zx < 0))), vr68, vr37]) Try.underlying42 ty42 rfl pl42 (by obtain ⟨_, _, e0_, -, -⟩ := hr38.len; simp only [e0_]; rfl)) ?_
        refine RA.all [5] (by kernel_rfl) rfl ?_
        have hm76 := Ext.trans hm64 he67
        replace hb14 := ((hb14.ext he42).exc hx47 (Nat.ne_of_lt lt_b12_b41)).ext hm76
        refine RS.runs rfl rfl rfl (h_store (vv := (.agg #[(.bool (decide (zx < 0))), vr68, vr37])) (cs := [(.bool (decide (zx < 0))), vr68, vr37]) (o := 0) ty42 rfl rfl rfl rfl (one_cons rfl (one_cons hr69.one (one_cons hr38.one one_nil))) hb14 (Nat.le_of_ble_eq_true rfl)) ?_ RS.nil
        rintro w72 ⟨hn73, hx74, hz75⟩
        refine ⟨.inr (.inl (by kernel_rfl)), ?_⟩
        replace hE := Below.exc hE hE.size hx74 ge_b12
        have nb_hx74 := (Nb.of hb14 (nu_cons rfl (nu_cons rfl (nu_cons rfl nu_nil))))
        replace hb14 : Bk w72 b12 42 [(.bool (decide (zx < 0))), vr68, vr37] := hn73
        refine RA.done (by kernel_rfl) ?_
        refine wret ?_
        refine ⟨[(.agg #[(.bool (decide (zx < 0))), vr68, vr37])], ⟨⟨_, _, [(.bool (decide (zx < 0))), vr68, vr37], rfl, ⟨_, Try.underlying42⟩, hb14.cells rfl, .inl ⟨ag42, ⟨_, _, ty42⟩, rfl⟩⟩, trivial⟩, ?_⟩
        have e1 : (Rat.divInt zx zy).num = zx ∧ (Rat.divInt zx zy).den = zy.natAbs := by
          first | (rw [hy1]; exact divInt_one zx) | exact hlaw.1 hd | exact hlaw.2 hd
        have hl1 := rl_num (a := zx) (b := zy)
        have hl2 := rl_den (a := zx) (b := zy)
        replace hr69 := hr69.apn hx74 nb_hx74
        have hm77 := Ext.trans he58 (Ext.trans he61 he67)
        replace hr38 := (hr38.tr (Sm.ext hm77)).apn hx74 nb_hx74
        exact ⟨⟨_, _, agg3 (by rw [e1.1]), by rw [e1.1]; exact hr69, by rw [e1.2]; exact hr38, by omega, by omega⟩, hE⟩
      · have hb59p := hb59
        replace hb59p := of_decide_eq_false hb59p
        refine wskip ?_
        refine wseq ?_
        refine wregion ?_
        have hm79 := Ext.trans he8 (Ext.trans he13 (Ext.trans he18 (Ext.trans he36 he42)))
        replace hb4 := ((hb4.ext hm79).exc hx47 (Nat.ne_of_lt (Nat.lt_trans lt_b2_b7 (Nat.lt_trans lt_b7_b12 lt_b12_b41)))).ext (Ext.trans he54 he58)
        have hc78 := hb4.cells (o := 0) (cs := [(.bool (sx)), vx]) rfl
        refine RL.val rfl rfl (by decide) (r_loada (o := 0) (cs := [(.bool (sx)), vx]) Try.underlying40 ag40 ty40 rfl hc78) ?_
        replace hb9 := ((hb9.ext (Ext.trans he36 he42)).exc hx47 (Nat.ne_of_lt (Nat.lt_trans lt_b7_b12 lt_b12_b41))).ext (Ext.trans he54 he58)
        have hc80 := hb9.cells (o := 0) (cs := [(.bool (sy)), vy]) rfl
        refine RL.val rfl rfl (by decide) (r_loada (o := 0) (cs := [(.bool (sy)), vy]) Try.underlying40 ag40 ty40 rfl hc80) ?_
        have hm86 := Ext.trans he3 (Ext.trans he8 (Ext.trans he13 (Ext.trans he18 (Ext.trans he36 he42))))
        replace hx := ((hx.tr (Sm.ext hm86)).apn hx47 nb_hx47).tr (Sm.ext (Ext.trans he54 he58))
        replace hy := ((hy.tr (Sm.ext (Ext.trans he36 he42))).apn hx47 nb_hx47).tr (Sm.ext (Ext.trans he54 he58))
        refine RL.call rfl rfl (by decide) (r_call (vl := [(.agg #[(.bool (sx)), vx]), (.agg #[(.bool (sy)), vy])]) ent43 rfl) (r02_gcd hx (by assumption) (by first | omega | simp) (show sg sx (val x) = zx from ex) hy (by assumption) (by first | omega | simp) (show sg sy (val y) = zy from ey)) ?_
        rintro _ w81 ⟨⟨vr83, rfl, hr84, hl85⟩, he82⟩
        replace hr84 := hr84.mono (D' := fun b T => w.heap.size ≤ b ∧ T = 52) (fun b T h => ⟨Nat.le_trans hE.size h.1, h.2⟩)
        replace hE := Below.ext hE hE.size he82
        refine RL.run rfl rfl (by decide) (h_alloc (cs := [(.bool false), (.slice none 0 0)]) ty40 rfl) ?_
        rintro _ w87 ⟨b88, rfl, hs91, hb90, he89⟩
        replace hb55 := hb55.ext (Ext.trans he58 he82)
        have lt_b53_b88 := Nat.lt_of_lt_of_eq hb55.lt hs91.symm
        have ge_b88 : w.heap.size ≤ b88 := by rw [hs91]; exact hE.size
        replace hE := Below.ext hE hE.size he89
        refine RL.runs rfl rfl (h_store (vv := (.agg #[(.bool (decide (((Int.gcd zx zy : Nat) : Int) < 0))), vr83])) (cs := [(.bool (decide (((Int.gcd zx zy : Nat) : Int) < 0))), vr83]) (o := 0) ty40 rfl rfl rfl rfl (one_cons rfl (one_cons hr84.one one_nil)) hb90 (Nat.le_of_ble_eq_true rfl)) ?_
        rintro w92 ⟨hn93, hx94, hz95⟩
        replace hE := Below.exc hE hE.size hx94 ge_b88
        have nb_hx94 := (Nb.of hb90 (nu_cons rfl (nu_cons rfl nu_nil)))
        replace hb90 : Bk w92 b88 40 [(.bool (decide (((Int.gcd zx zy : Nat) : Int) < 0))), vr83] := hn93
        refine RL.nil ?_
        refine wseq ?_
        refine wregion ?_
        replace hb4 := (hb4.ext (Ext.trans he82 he89)).exc hx94 (Nat.ne_of_lt (Nat.lt_trans lt_b2_b7 (Nat.lt_trans lt_b7_b12 (Nat.lt_trans lt_b12_b41 (Nat.lt_trans lt_b41_b53 lt_b53_b88)))))
        have hc96 := hb4.cells (o := 0) (cs := [(.bool (sx)), vx]) rfl
        refine RL.val rfl rfl (by decide) (r_loada (o := 0) (cs := [(.bool (sx)), vx]) Try.underlying40 ag40 ty40 rfl hc96) ?_
        have hc97 := hb90.cells (o := 0) (cs := [(.bool (decide (((Int.gcd zx zy : Nat) : Int) < 0))), vr83]) rfl
        refine RL.val rfl rfl (by decide) (r_loada (o := 0) (cs := [(.bool (decide (((Int.gcd zx zy : Nat) : Int) < 0))), vr83]) Try.underlying40 ag40 ty40 rfl hc97) ?_
        replace hx := (hx.tr (Sm.ext (Ext.trans he82 he89))).apn hx94 nb_hx94
        replace hr84 := (hr84.tr (Sm.ext he89)).apn hx94 nb_hx94
        refine RL.call rfl rfl (by decide) (r_call (vl := [(.agg #[(.bool (sx)), vx]), (.agg #[(.bool (decide (((Int.gcd zx zy : Nat) : Int) < 0))), vr83])]) ent44 rfl) (r02_divmod hx (by assumption) (by first | omega | simp) (show sg sx (val x) = zx from ex) hr84 (digs_lm _) (by first | omega | simp) (sg_canon _)) ?_
        rintro _ w98 ⟨⟨vq100, vr103, rfl, hq101, hl102, hr104, hl105⟩, he99⟩
        replace hq101 := hq101.mono (D' := fun b T => w.heap.size ≤ b ∧ T = 52) (fun b T h => ⟨Nat.le_trans hE.size h.1, h.2⟩)
        replace hr104 := hr104.mono (D' := fun b T => w.heap.size ≤ b ∧ T = 52) (fun b T h => ⟨Nat.le_trans hE.size h.1, h.2⟩)
        replace hE := Below.ext hE hE.size he99
        refine RL.val rfl rfl (by decide) (r_move_as (v := (.tuple #[(.agg #[(.bool (decide ((zx / ((Int.gcd zx zy : Nat) : Int)) < 0))), vq100]), (.agg #[(.bool (decide ((modI zx ((Int.gcd zx zy : Nat) : Int)) < 0))), vr103]), (.bool (decide (((Int.gcd zx zy : Nat) : Int) ≠ 0)))])) rfl) ?_
        refine RL.val rfl rfl (by decide) (r_extract (v := (.agg #[(.bool (decide ((zx / ((Int.gcd zx zy : Nat) : Int)) < 0))), vq100])) rfl rfl) ?_
        refine RL.val rfl rfl (by decide) (r_extract (v := (.agg #[(.bool (decide ((modI zx ((Int.gcd zx zy : Nat) : Int)) < 0))), vr103])) rfl rfl) ?_
        refine RL.val rfl rfl (by decide) (r_extract (v := (.bool (decide (((Int.gcd zx zy : Nat) : Int) ≠ 0)))) rfl rfl) ?_
        refine RL.run rfl rfl (by decide) (h_alloc (cs := [(.bool false), (.slice none 0 0)]) ty40 rfl) ?_
        rintro _ w106 ⟨b107, rfl, hs110, hb109, he108⟩
        replace hb90 := hb90.ext he99
        have lt_b88_b107 := Nat.lt_of_lt_of_eq hb90.lt hs110.symm
        have ge_b107 : w.heap.size ≤ b107 := by rw [hs110]; exact hE.size
        replace hE := Below.ext hE hE.size he108
        refine RL.run rfl rfl (by decide) (h_alloc (cs := [(.bool false), (.slice none 0 0)]) ty40 rfl) ?_
        rintro _ w111 ⟨b112, rfl, hs115, hb114, he113⟩
        have lt_b107_b112 := Nat.lt_of_lt_of_eq hb109.lt hs115.symm
        have ge_b112 : w.heap.size ≤ b112 := by rw [hs115]; exact hE.size
        replace hE := Below.ext hE hE.size he113
        replace hb109 := hb109.ext he113
        refine RL.runs rfl rfl (h_store (vv := (.agg #[(.bool (decide ((zx / ((Int.gcd zx zy : Nat) : Int)) < 0))), vq100])) (cs := [(.bool (decide ((zx / ((Int.gcd zx zy : Nat) : Int)) < 0))), vq100]) (o := 0) ty40 rfl rfl rfl rfl (one_cons rfl (one_cons hq101.one one_nil)) hb109 (Nat.le_of_ble_eq_true rfl)) ?_
        rintro w116 ⟨hn117, hx118, hz119⟩
        replace hE := Below.exc hE hE.size hx118 ge_b107
        have nb_hx118 := (Nb.of hb109 (nu_cons rfl (nu_cons rfl nu_nil)))
        replace hb109 : Bk w116 b107 40 [(.bool (decide ((zx / ((Int.gcd zx zy : Nat) : Int)) < 0))), vq100] := hn117
        replace hb114 := hb114.exc hx118 (Nat.ne_of_gt lt_b107_b112)
        refine RL.runs rfl rfl (h_store (vv := (.agg #[(.bool (decide ((modI zx ((Int.gcd zx zy : Nat) : Int)) < 0))), vr103])) (cs := [(.bool (decide ((modI zx ((Int.gcd zx zy : Nat) : Int)) < 0))), vr103]) (o := 0) ty40 rfl rfl rfl rfl (one_cons rfl (one_cons hr104.one one_nil)) hb114 (Nat.le_of_ble_eq_true rfl)) ?_
        rintro w120 ⟨hn121, hx122, hz123⟩
        replace hE := Below.exc hE hE.size hx122 ge_b112
        have nb_hx122 := (Nb.of hb114 (nu_cons rfl (nu_cons rfl nu_nil)))
        replace hb114 : Bk w120 b112 40 [(.bool (decide ((modI zx ((Int.gcd zx zy : Nat) : Int)) < 0))), vr103] := hn121
        refine RL.val rfl rfl (by decide) (r_assign_as (v := (.bool (decide (((Int.gcd zx zy : Nat) : Int) ≠ 0)))) rfl) ?_
        refine RL.nil ?_
        refine wseq ?_
        refine wregion ?_
        have hm125 := Ext.trans he99 (Ext.trans he108 he113)
        replace hb9 := ((((hb9.ext (Ext.trans he82 he89)).exc hx94 (Nat.ne_of_lt (Nat.lt_trans lt_b7_b12 (Nat.lt_trans lt_b12_b41 (Nat.lt_trans lt_b41_b53 lt_b53_b88))))).ext hm125).exc hx118 (Nat.ne_of_lt (Nat.lt_trans lt_b7_b12 (Nat.lt_trans lt_b12_b41 (Nat.lt_trans lt_b41_b53 (Nat.lt_trans lt_b53_b88 lt_b88_b107)))))).exc hx122 (Nat.ne_of_lt (Nat.lt_trans lt_b7_b12 (Nat.lt_trans lt_b12_b41 (Nat.lt_trans lt_b41_b53 (Nat.lt_trans lt_b53_b88 (Nat.lt_trans lt_b88_b107 lt_b107_b112))))))
        have hc124 := hb9.cells (o := 0) (cs := [(.bool (sy)), vy]) rfl
        refine RL.val rfl rfl (by decide) (r_loada (o := 0) (cs := [(.bool (sy)), vy]) Try.underlying40 ag40 ty40 rfl hc124) ?_
        replace hb90 := ((hb90.ext (Ext.trans he108 he113)).exc hx118 (Nat.ne_of_lt lt_b88_b107)).exc hx122 (Nat.ne_of_lt (Nat.lt_trans lt_b88_b107 lt_b107_b112))
        have hc126 := hb90.cells (o := 0) (cs := [(.bool (decide (((Int.gcd zx zy : Nat) : Int) < 0))), vr83]) rfl
        refine RL.val rfl rfl (by decide) (r_loada (o := 0) (cs := [(.bool (decide (((Int.gcd zx zy : Nat) : Int) < 0))), vr83]) Try.underlying40 ag40 ty40 rfl hc126) ?_
        replace hy := ((((hy.tr (Sm.ext (Ext.trans he82 he89))).apn hx94 nb_hx94).tr (Sm.ext hm125)).apn hx118 nb_hx118).apn hx122 nb_hx122
        replace hr84 := ((hr84.tr (Sm.ext hm125)).apn hx118 nb_hx118).apn hx122 nb_hx122
        refine RL.call rfl rfl (by decide) (r_call (vl := [(.agg #[(.bool (sy)), vy]), (.agg #[(.bool (decide (((Int.gcd zx zy : Nat) : Int) < 0))), vr83])]) ent44 rfl) (r02_divmod hy (by assumption) (by first | omega | simp) (show sg sy (val y) = zy from ey) hr84 (digs_lm _) (by first | omega | simp) (sg_canon _)) ?_
        rintro _ w127 ⟨⟨vq129, vr132, rfl, hq130, hl131, hr133, hl134⟩, he128⟩
        replace hq130 := hq130.mono (D' := fun b T => w.heap.size ≤ b ∧ T = 52) (fun b T h => ⟨Nat.le_trans hE.size h.1, h.2⟩)
        replace hr133 := hr133.mono (D' := fun b T => w.heap.size ≤ b ∧ T = 52) (fun b T h => ⟨Nat.le_trans hE.size h.1, h.2⟩)
        replace hE := Below.ext hE hE.size he128
        refine RL.val rfl rfl (by decide) (r_move_as (v := (.tuple #[(.agg #[(.bool (decide ((zy / ((Int.gcd zx zy : Nat) : Int)) < 0))), vq129]), (.agg #[(.bool (decide ((modI zy ((Int.gcd zx zy : Nat) : Int)) < 0))), vr132]), (.bool (decide (((Int.gcd zx zy : Nat) : Int) ≠ 0)))])) rfl) ?_
        refine RL.val rfl rfl (by decide) (r_extract (v := (.agg #[(.bool (decide ((zy / ((Int.gcd zx zy : Nat) : Int)) < 0))), vq129])) rfl rfl) ?_
        refine RL.val rfl rfl (by decide) (r_extract (v := (.agg #[(.bool (decide ((modI zy ((Int.gcd zx zy : Nat) : Int)) < 0))), vr132])) rfl rfl) ?_
        refine RL.val rfl rfl (by decide) (r_extract (v := (.bool (decide (((Int.gcd zx zy : Nat) : Int) ≠ 0)))) rfl rfl) ?_
        refine RL.run rfl rfl (by decide) (h_alloc (cs := [(.bool false), (.slice none 0 0)]) ty40 rfl) ?_
        rintro _ w135 ⟨b136, rfl, hs139, hb138, he137⟩
        replace hb114 := hb114.ext he128
        have lt_b112_b136 := Nat.lt_of_lt_of_eq hb114.lt hs139.symm
        have ge_b136 : w.heap.size ≤ b136 := by rw [hs139]; exact hE.size
        replace hE := Below.ext hE hE.size he137
        refine RL.run rfl rfl (by decide) (h_alloc (cs := [(.bool false), (.slice none 0 0)]) ty40 rfl) ?_
        rintro _ w140 ⟨b141, rfl, hs144, hb143, he142⟩
        have lt_b136_b141 := Nat.lt_of_lt_of_eq hb138.lt hs144.symm
        have ge_b141 : w.heap.size ≤ b141 := by rw [hs144]; exact hE.size
        replace hE := Below.ext hE hE.size he142
        replace hb138 := hb138.ext he142
        refine RL.runs rfl rfl (h_store (vv := (.agg #[(.bool (decide ((zy / ((Int.gcd zx zy : Nat) : Int)) < 0))), vq129])) (cs := [(.bool (decide ((zy / ((Int.gcd zx zy : Nat) : Int)) < 0))), vq129]) (o := 0) ty40 rfl rfl rfl rfl (one_cons rfl (one_cons hq130.one one_nil)) hb138 (Nat.le_of_ble_eq_true rfl)) ?_
        rintro w145 ⟨hn146, hx147, hz148⟩
        replace hE := Below.exc hE hE.size hx147 ge_b136
        have nb_hx147 := (Nb.of hb138 (nu_cons rfl (nu_cons rfl nu_nil)))
        replace hb138 : Bk w145 b136 40 [(.bool (decide ((zy / ((Int.gcd zx zy : Nat) : Int)) < 0))), vq129] := hn146
        replace hb143 := hb143.exc hx147 (Nat.ne_of_gt lt_b136_b141)
        refine RL.runs rfl rfl (h_store (vv := (.agg #[(.bool (decide ((modI zy ((Int.gcd zx zy : Nat) : Int)) < 0))), vr132])) (cs := [(.bool (decide ((modI zy ((Int.gcd zx zy : Nat) : Int)) < 0))), vr132]) (o := 0) ty40 rfl rfl rfl rfl (one_cons rfl (one_cons hr133.one one_nil)) hb143 (Nat.le_of_ble_eq_true rfl)) ?_
        rintro w149 ⟨hn150, hx151, hz152⟩
        replace hE := Below.exc hE hE.size hx151 ge_b141
        have nb_hx151 := (Nb.of hb143 (nu_cons rfl (nu_cons rfl nu_nil)))
        replace hb143 : Bk w149 b141 40 [(.bool (decide ((modI zy ((Int.gcd zx zy : Nat) : Int)) < 0))), vr132] := hn150
        refine RL.val rfl rfl (by decide) (r_assign_as (v := (.bool (decide (((Int.gcd zx zy : Nat) : Int) ≠ 0)))) rfl) ?_
        refine RL.nil ?_
        refine wseq ?_
        refine wseq ?_
        refine wregion ?_
        refine RL.val rfl rfl (by decide) (r_fieldAddr Try.underlying40 rfl ty4 rfl) ?_
        replace hb138 := hb138.exc hx151 (Nat.ne_of_lt lt_b136_b141)
        have hc153 := hb138.cell (j := 0) (u := (.bool (decide ((zy / ((Int.gcd zx zy : Nat) : Int)) < 0)))) rfl
        refine RL.val rfl rfl (by decide) (r_load (v := (.bool (decide ((zy / ((Int.gcd zx zy : Nat) : Int)) < 0)))) Try.underlying4 ag4 rfl hc153) ?_
        refine RL.nil ?_
        refine wcond (b := decide ((zy / ((Int.gcd zx zy : Nat) : Int)) < 0)) rfl (fun hb154 => ?_) (fun hb154 => ?_)
        · have hb154p := hb154
          replace hb154p := of_decide_eq_true hb154p
          have hd := hb154p
          refine wdraw mixed fun w155 he156 => ?_
          replace hE := Below.ext hE hE.size he156
          have hm158 := Ext.trans he128 (Ext.trans he137 he142)
          replace hb109 := ((((hb109.exc hx122 (Nat.ne_of_lt lt_b107_b112)).ext hm158).exc hx147 (Nat.ne_of_lt (Nat.lt_trans lt_b107_b112 lt_b112_b136))).exc hx151 (Nat.ne_of_lt (Nat.lt_trans lt_b107_b112 (Nat.lt_trans lt_b112_b136 lt_b136_b141)))).ext he156
          have hc157 := hb109.cells (o := 0) (cs := [(.bool (decide ((zx / ((Int.gcd zx zy : Nat) : Int)) < 0))), vq100]) rfl
          refine RA.rd 0 rfl (by kernel_rfl) rfl rfl rfl (by decide) (Ext.refl _) (fun u hu => r_loada (o := 0) (cs := [(.bool (decide ((zx / ((Int.gcd zx zy : Nat) : Int)) < 0))), vq100]) Try.underlying40 ag40 ty40 rfl (fun j v hj => cell_ext hu (hc157 j v hj))) ?_
          replace hb138 := hb138.ext he156
          have hc159 := hb138.cells (o := 0) (cs := [(.bool (decide ((zy / ((Int.gcd zx zy : Nat) : Int)) < 0))), vq129]) rfl
          refine RA.rd 2 rfl (by kernel_rfl) rfl rfl rfl (by decide) (Ext.refl _) (fun u hu => r_loada (o := 0) (cs := [(.bool (decide ((zy / ((Int.gcd zx zy : Nat) : Int)) < 0))), vq129]) Try.underlying40 ag40 ty40 rfl (fun j v hj => cell_ext hu (hc159 j v hj))) ?_
          refine RA.all [1] (by kernel_rfl) rfl ?_
          replace hq101 := ((((((hq101.tr (Sm.ext (Ext.trans he108 he113))).apn hx118 nb_hx118).apn hx122 nb_hx122).tr (Sm.ext hm158)).apn hx147 nb_hx147).apn hx151 nb_hx151).tr (Sm.ext he156)
          refine RS.call rfl rfl rfl (by decide) (r_call (vl := [(.agg #[(.bool (decide ((zx / ((Int.gcd zx zy : Nat) : Int)) < 0))), vq100])]) ent45 rfl) (r02_neg hq101 (digs_lm _) (by first | omega | simp) (sg_canon _)) ?_ RS.nil
          rintro _ w160 ⟨⟨vr162, rfl, hr163, hl164⟩, he161⟩
          refine ⟨.inr (.inr he161), RA.more (S' := fun u => Ext _ u) (fun u hu => Ext.trans he161 hu) ?_⟩
          replace hr163 := hr163.mono (D' := fun b T => w.heap.size ≤ b ∧ T = 52) (fun b T h => ⟨Nat.le_trans hE.size h.1, h.2⟩)
          replace hE := Below.ext hE hE.size he161
          refine RA.all [3] (by kernel_rfl) rfl ?_
          replace hq130 := (((hq130.tr (Sm.ext (Ext.trans he137 he142))).apn hx147 nb_hx147).apn hx151 nb_hx151).tr (Sm.ext (Ext.trans he156 he161))
          refine RS.call rfl rfl rfl (by decide) (r_call (vl := [(.agg #[(.bool (decide ((zy / ((Int.gcd zx zy : Nat) : Int)) < 0))), vq129])]) ent45 rfl) (r02_neg hq130 (digs_lm _) (by first | omega | simp) (sg_canon _)) ?_ RS.nil
          rintro _ w165 ⟨⟨vr167, rfl, hr168, hl169⟩, he166⟩
          refine ⟨.inr (.inr he166), RA.more (S' := fun u => Ext _ u) (fun u hu => Ext.trans he166 hu) ?_⟩
          replace hr168 := hr168.mono (D' := fun b T => w.heap.size ≤ b ∧ T = 52) (fun b T h => ⟨Nat.le_trans hE.size h.1, h.2⟩)
          replace hE := Below.ext hE hE.size he166
          refine RA.all [4] (by kernel_rfl) rfl ?_
          replace hb109 := hb109.ext (Ext.trans he161 he166)
          refine RS.runs rfl rfl rfl (h_store (vv := (.agg #[(.bool (decide ((-(zx / ((Int.gcd zx zy : Nat) : Int))) < 0))), vr162])) (cs := [(.bool (decide ((-(zx / ((Int.gcd zx zy : Nat) : Int))) < 0))), vr162]) (o := 0) ty40 rfl rfl rfl rfl (one_cons rfl (one_cons hr163.one one_nil)) hb109 (Nat.le_of_ble_eq_true rfl)) ?_ RS.nil
          rintro w170 ⟨hn171, hx172, hz173⟩
          refine ⟨.inr (.inl (by kernel_rfl)), ?_⟩
          replace hE := Below.exc hE hE.size hx172 ge_b107
          have nb_hx172 := (Nb.of hb109 (nu_cons rfl (nu_cons hq101.nu nu_nil)))
          replace hb109 : Bk w170 b107 40 [(.bool (decide ((-(zx / ((Int.gcd zx zy : Nat) : Int))) < 0))), vr162] := hn171
          refine RA.all [5] (by kernel_rfl) rfl ?_
          replace hb138 := (hb138.ext (Ext.trans he161 he166)).exc hx172 (Nat.ne_of_gt (Nat.lt_trans lt_b107_b112 lt_b112_b136))
          refine RS.runs rfl rfl rfl (h_store (vv := (.agg #[(.bool (decide ((-(zy / ((Int.gcd zx zy : Nat) : Int))) < 0))), vr167])) (cs := [(.bool (decide ((-(zy / ((Int.gcd zx zy : Nat) : Int))) < 0))), vr167]) (o := 0) ty40 rfl rfl rfl rfl (one_cons rfl (one_cons hr168.one one_nil)) hb138 (Nat.le_of_ble_eq_true rfl)) ?_ RS.nil
          rintro w174 ⟨hn175, hx176, hz177⟩
          refine ⟨.inr (.inl (by kernel_rfl)), ?_⟩
          replace hE := Below.exc hE hE.size hx176 ge_b136
          have nb_hx176 := (Nb.of hb138 (nu_cons rfl (nu_cons hq130.nu nu_nil)))
          replace hb138 : Bk w174 b136 40 [(.bool (decide ((-(zy / ((Int.gcd zx zy : Nat) : Int))) < 0))), vr167] := hn175
          refine RA.done (by kernel_rfl) ?_
          refine wseq ?_
          refine wregion ?_
          replace hb109 := hb109.exc hx176 (Nat.ne_of_lt (Nat.lt_trans lt_b107_b112 lt_b112_b136))
          have hc178 := hb109.cells (o := 0) (cs := [(.bool (decide ((-(zx / ((Int.gcd zx zy : Nat) : Int))) < 0))), vr162]) rfl
          refine RL.val rfl rfl (by decide) (r_loada (o := 0) (cs := [(.bool (decide ((-(zx / ((Int.gcd zx zy : Nat) : Int))) < 0))), vr162]) Try.underlying40 ag40 ty40 rfl hc178) ?_
          refine RL.val rfl rfl (by decide) (r_fieldAddr Try.underlying40 rfl ty38 rfl) ?_
          have hc179 := hb138.cell (j := 1) (u := vr167) rfl
          refine RL.val rfl rfl (by decide) (r_load (v := vr167) Try.underlying38 ag38 rfl hc179) ?_
          refine RL.val rfl rfl (by decide) (r_build (vl := [(0, (.agg #[(.bool (decide ((-(zx / ((Int.gcd zx zy : Nat) : Int))) < 0))), vr162])), (1, vr167)]) (cs := [(.bool (decide ((-(zx / ((Int.gcd zx zy : Nat) : Int))) < 0))), vr162, vr167]) Try.underlying42 ty42 rfl pl42 (by obtain ⟨_, _, e0_, -, -⟩ := hr168.len; simp only [e0_]; rfl)) ?_
          have hm184 := Ext.trans he54 (Ext.trans he58 (Ext.trans he82 he89))
          have hm185 := Ext.trans he156 (Ext.trans he161 he166)
          replace hb14 := ((((((((((((hb14.ext he42).exc hx47 (Nat.ne_of_lt lt_b12_b41)).ext hm184).exc hx94 (Nat.ne_of_lt (Nat.lt_trans lt_b12_b41 (Nat.lt_trans lt_b41_b53 lt_b53_b88)))).ext hm125).exc hx118 (Nat.ne_of_lt (Nat.lt_trans lt_b12_b41 (Nat.lt_trans lt_b41_b53 (Nat.lt_trans lt_b53_b88 lt_b88_b107))))).exc hx122 (Nat.ne_of_lt (Nat.lt_trans lt_b12_b41 (Nat.lt_trans lt_b41_b53 (Nat.lt_trans lt_b53_b88 (Nat.lt_trans lt_b88_b107 lt_b107_b112)))))).ext hm158).exc hx147 (Nat.ne_of_lt (Nat.lt_trans lt_b12_b41 (Nat.lt_trans lt_b41_b53 (Nat.lt_trans lt_b53_b88 (Nat.lt_trans lt_b88_b107 (Nat.lt_trans lt_b107_b112 lt_b112_b136))))))).exc hx151 (Nat.ne_of_lt (Nat.lt_trans lt_b12_b41 (Nat.lt_trans lt_b41_b53 (Nat.lt_trans lt_b53_b88 (Nat.lt_trans lt_b88_b107 (Nat.lt_trans lt_b107_b112 (Nat.lt_trans lt_b112_b136 lt_b136_b141)))))))).ext hm185).exc hx172 (Nat.ne_of_lt (Nat.lt_trans lt_b12_b41 (Nat.lt_trans lt_b41_b53 (Nat.lt_trans lt_b53_b88 lt_b88_b107))))).exc hx176 (Nat.ne_of_lt (Nat.lt_trans lt_b12_b41 (Nat.lt_trans lt_b41_b53 (Nat.lt_trans lt_b53_b88 (Nat.lt_trans lt_b88_b107 (Nat.lt_trans lt_b107_b112 lt_b112_b136))))))
          refine RL.runs rfl rfl (h_store (vv := (.agg #[(.bool (decide ((-(zx / ((Int.gcd zx zy : Nat) : Int))) < 0))), vr162, vr167])) (cs := [(.bool (decide ((-(zx / ((Int.gcd zx zy : Nat) : Int))) < 0))), vr162, vr167]) (o := 0) ty42 rfl rfl rfl rfl (one_cons rfl (one_cons hr163.one (one_cons hr168.one one_nil))) hb14 (Nat.le_of_ble_eq_true rfl)) ?_
          rintro w180 ⟨hn181, hx182, hz183⟩
          replace hE := Below.exc hE hE.size hx182 ge_b12
          have nb_hx182 := (Nb.of hb14 (nu_cons rfl (nu_cons rfl (nu_cons rfl nu_nil))))
          replace hb14 : Bk w180 b12 42 [(.bool (decide ((-(zx / ((Int.gcd zx zy : Nat) : Int))) < 0))), vr162, vr167] := hn181
          refine RL.nil ?_
          refine wret ?_
          refine ⟨[(.agg #[(.bool (decide ((-(zx / ((Int.gcd zx zy : Nat) : Int))) < 0))), vr162, vr167])], ⟨⟨_, _, [(.bool (decide ((-(zx / ((Int.gcd zx zy : Nat) : Int))) < 0))), vr162, vr167], rfl, ⟨_, Try.underlying42⟩, hb14.cells rfl, .inl ⟨ag42, ⟨_, _, ty42⟩, rfl⟩⟩, trivial⟩, ?_⟩
          have e1 : (Rat.divInt zx zy).num = (-(zx / ((Int.gcd zx zy : Nat) : Int))) ∧ (Rat.divInt zx zy).den = (-(zy / ((Int.gcd zx zy : Nat) : Int))).natAbs := by
            first | (rw [hy1]; exact divInt_one zx) | exact hlaw.1 hd | exact hlaw.2 hd
          have hl1 := rl_num (a := zx) (b := zy)
          have hl2 := rl_den (a := zx) (b := zy)
          replace hr163 := (((hr163.tr (Sm.ext he166)).apn hx172 nb_hx172).apn hx176 nb_hx176).apn hx182 nb_hx182
          replace hr168 := ((hr168.apn hx172 nb_hx172).apn hx176 nb_hx176).apn hx182 nb_hx182
          exact ⟨⟨_, _, agg3 (by rw [e1.1]), by rw [e1.1]; exact hr163, by rw [e1.2]; exact hr168, by omega, by omega⟩, hE⟩
        · have hb154p := hb154
          replace hb154p := of_decide_eq_false hb154p
          have hd := hb154p
          refine wskip ?_
          refine wseq ?_
          refine wregion ?_
          have hm187 := Ext.trans he128 (Ext.trans he137 he142)
          replace hb109 := (((hb109.exc hx122 (Nat.ne_of_lt lt_b107_b112)).ext hm187).exc hx147 (Nat.ne_of_lt (Nat.lt_trans lt_b107_b112 lt_b112_b136))).exc hx151 (Nat.ne_of_lt (Nat.lt_trans lt_b107_b112 (Nat.lt_trans lt_b112_b136 lt_b136_b141)))
          have hc186 := hb109.cells (o := 0) (cs := [(.bool (decide ((zx / ((Int.gcd zx zy : Nat) : Int)) < 0))), vq100]) rfl
          refine RL.val rfl rfl (by decide) (r_loada (o := 0) (cs := [(.bool (decide ((zx / ((Int.gcd zx zy : Nat) : Int)) < 0))), vq100]) Try.underlying40 ag40 ty40 rfl hc186) ?_
          refine RL.val rfl rfl (by decide) (r_fieldAddr Try.underlying40 rfl ty38 rfl) ?_
          have hc188 := hb138.cell (j := 1) (u := vq129) rfl
          refine RL.val rfl rfl (by decide) (r_load (v := vq129) Try.underlying38 ag38 rfl hc188) ?_
          refine RL.val rfl rfl (by decide) (r_build (vl := [(0, (.agg #[(.bool (decide ((zx / ((Int.gcd zx zy : Nat) : Int)) < 0))), vq100])), (1, vq129)]) (cs := [(.bool (decide ((zx / ((Int.gcd zx zy : Nat) : Int)) < 0))), vq100, vq129]) Try.underlying42 ty42 rfl pl42 (by obtain ⟨_, _, e0_, -, -⟩ := hq130.len; simp only [e0_]; rfl)) ?_
          have hm193 := Ext.trans he54 (Ext.trans he58 (Ext.trans he82 he89))
          replace hb14 := (((((((((hb14.ext he42).exc hx47 (Nat.ne_of_lt lt_b12_b41)).ext hm193).exc hx94 (Nat.ne_of_lt (Nat.lt_trans lt_b12_b41 (Nat.lt_trans lt_b41_b53 lt_b53_b88)))).ext hm125).exc hx118 (Nat.ne_of_lt (Nat.lt_trans lt_b12_b41 (Nat.lt_trans lt_b41_b53 (Nat.lt_trans lt_b53_b88 lt_b88_b107))))).exc hx122 (Nat.ne_of_lt (Nat.lt_trans lt_b12_b41 (Nat.lt_trans lt_b41_b53 (Nat.lt_trans lt_b53_b88 (Nat.lt_trans lt_b88_b107 lt_b107_b112)))))).ext hm187).exc hx147 (Nat.ne_of_lt (Nat.lt_trans lt_b12_b41 (Nat.lt_trans lt_b41_b53 (Nat.lt_trans lt_b53_b88 (Nat.lt_trans lt_b88_b107 (Nat.lt_trans lt_b107_b112 lt_b112_b136))))))).exc hx151 (Nat.ne_of_lt (Nat.lt_trans lt_b12_b41 (Nat.lt_trans lt_b41_b53 (Nat.lt_trans lt_b53_b88 (Nat.lt_trans lt_b88_b107 (Nat.lt_trans lt_b107_b112 (Nat.lt_trans lt_b112_b136 lt_b136_b141)))))))
          refine RL.runs rfl rfl (h_store (vv := (.agg #[(.bool (decide ((zx / ((Int.gcd zx zy : Nat) : Int)) < 0))), vq100, vq129])) (cs := [(.bool (decide ((zx / ((Int.gcd zx zy : Nat) : Int)) < 0))), vq100, vq129]) (o := 0) ty42 rfl rfl rfl rfl (one_cons rfl (one_cons hq101.one (one_cons hq130.one one_nil))) hb14 (Nat.le_of_ble_eq_true rfl)) ?_
          rintro w189 ⟨hn190, hx191, hz192⟩
          replace hE := Below.exc hE hE.size hx191 ge_b12
          have nb_hx191 := (Nb.of hb14 (nu_cons rfl (nu_cons rfl (nu_cons rfl nu_nil))))
          replace hb14 : Bk w189 b12 42 [(.bool (decide ((zx / ((Int.gcd zx zy : Nat) : Int)) < 0))), vq100, vq129] := hn190
          refine RL.nil ?_
          refine wret ?_
          refine ⟨[(.agg #[(.bool (decide ((zx / ((Int.gcd zx zy : Nat) : Int)) < 0))), vq100, vq129])], ⟨⟨_, _, [(.bool (decide ((zx / ((Int.gcd zx zy : Nat) : Int)) < 0))), vq100, vq129], rfl, ⟨_, Try.underlying42⟩, hb14.cells rfl, .inl ⟨ag42, ⟨_, _, ty42⟩, rfl⟩⟩, trivial⟩, ?_⟩
          have e1 : (Rat.divInt zx zy).num = (zx / ((Int.gcd zx zy : Nat) : Int)) ∧ (Rat.divInt zx zy).den = (zy / ((Int.gcd zx zy : Nat) : Int)).natAbs := by
            first | (rw [hy1]; exact divInt_one zx) | exact hlaw.1 hd | exact hlaw.2 hd
          have hl1 := rl_num (a := zx) (b := zy)
          have hl2 := rl_den (a := zx) (b := zy)
          replace hq101 := ((((((hq101.tr (Sm.ext (Ext.trans he108 he113))).apn hx118 nb_hx118).apn hx122 nb_hx122).tr (Sm.ext hm187)).apn hx147 nb_hx147).apn hx151 nb_hx151).apn hx191 nb_hx191
          replace hq130 := (((hq130.tr (Sm.ext (Ext.trans he137 he142))).apn hx147 nb_hx147).apn hx151 nb_hx151).apn hx191 nb_hx191
          exact ⟨⟨_, _, agg3 (by rw [e1.1]), by rw [e1.1]; exact hq101, by rw [e1.2]; exact hq130, by omega, by omega⟩, hE⟩
    · have hb50p := hb50
      refine RL.gno rfl rfl (bool_eq hb50) rfl (by decide) ?_
      refine RL.gno rfl rfl (bool_eq hb50) rfl (by decide) ?_
      refine RL.gno rfl rfl (bool_eq hb50) rfl (by decide) ?_
      refine RL.gno rfl rfl (bool_eq hb50) rfl (by decide) ?_
      refine RL.val rfl rfl (by decide) (r_pick_f (v := (.bool (false))) (bool_eq hb50) rfl) ?_
      refine RL.nil ?_
      refine wcond_f rfl ?_
      refine wskip ?_
      refine wseq ?_
      refine wregion ?_
      have hm195 := Ext.trans he8 (Ext.trans he13 (Ext.trans he18 (Ext.trans he36 he42)))
      replace hb4 := (hb4.ext hm195).exc hx47 (Nat.ne_of_lt (Nat.lt_trans lt_b2_b7 (Nat.lt_trans lt_b7_b12 lt_b12_b41)))
      have hc194 := hb4.cells (o := 0) (cs := [(.bool (sx)), vx]) rfl
      refine RL.val rfl rfl (by decide) (r_loada (o := 0) (cs := [(.bool (sx)), vx]) Try.underlying40 ag40 ty40 rfl hc194) ?_
      replace hb9 := (hb9.ext (Ext.trans he36 he42)).exc hx47 (Nat.ne_of_lt (Nat.lt_trans lt_b7_b12 lt_b12_b41))
      have hc196 := hb9.cells (o := 0) (cs := [(.bool (sy)), vy]) rfl
      refine RL.val rfl rfl (by decide) (r_loada (o := 0) (cs := [(.bool (sy)), vy]) Try.underlying40 ag40 ty40 rfl hc196) ?_
      have hm202 := Ext.trans he3 (Ext.trans he8 (Ext.trans he13 (Ext.trans he18 (Ext.trans he36 he42))))
      replace hx := (hx.tr (Sm.ext hm202)).apn hx47 nb_hx47
      replace hy := (hy.tr (Sm.ext (Ext.trans he36 he42))).apn hx47 nb_hx47
      refine RL.call rfl rfl (by decide) (r_call (vl := [(.agg #[(.bool (sx)), vx]), (.agg #[(.bool (sy)), vy])]) ent43 rfl) (r02_gcd hx (by assumption) (by first | omega | simp) (show sg sx (val x) = zx from ex) hy (by assumption) (by first | omega | simp) (show sg sy (val y) = zy from ey)) ?_
      rintro _ w197 ⟨⟨vr199, rfl, hr200, hl201⟩, he198⟩
      replace hr200 := hr200.mono (D' := fun b T => w.heap.size ≤ b ∧ T = 52) (fun b T h => ⟨Nat.le_trans hE.size h.1, h.2⟩)
      replace hE := Below.ext hE hE.size he198
      refine RL.run rfl rfl (by decide) (h_alloc (cs := [(.bool false), (.slice none 0 0)]) ty40 rfl) ?_
      rintro _ w203 ⟨b204, rfl, hs207, hb206, he205⟩
      replace hb43 := hb43.ext he198
      have lt_b41_b204 := Nat.lt_of_lt_of_eq hb43.lt hs207.symm
      have ge_b204 : w.heap.size ≤ b204 := by rw [hs207]; exact hE.size
      replace hE := Below.ext hE hE.size he205
      refine RL.runs rfl rfl (h_store (vv := (.agg #[(.bool (decide (((Int.gcd zx zy : Nat) : Int) < 0))), vr199])) (cs := [(.bool (decide (((Int.gcd zx zy : Nat) : Int) < 0))), vr199]) (o := 0) ty40 rfl rfl rfl rfl (one_cons rfl (one_cons hr200.one one_nil)) hb206 (Nat.le_of_ble_eq_true rfl)) ?_
      rintro w208 ⟨hn209, hx210, hz211⟩
      replace hE := Below.exc hE hE.size hx210 ge_b204
      have nb_hx210 := (Nb.of hb206 (nu_cons rfl (nu_cons rfl nu_nil)))
      replace hb206 : Bk w208 b204 40 [(.bool (decide (((Int.gcd zx zy : Nat) : Int) < 0))), vr199] := hn209
      refine RL.nil ?_
      refine wseq ?_
      refine wregion ?_
      replace hb4 := (hb4.ext (Ext.trans he198 he205)).exc hx210 (Nat.ne_of_lt (Nat.lt_trans lt_b2_b7 (Nat.lt_trans lt_b7_b12 (Nat.lt_trans lt_b12_b41 lt_b41_b204))))
      have hc212 := hb4.cells (o := 0) (cs := [(.bool (sx)), vx]) rfl
      refine RL.val rfl rfl (by decide) (r_loada (o := 0) (cs := [(.bool (sx)), vx]) Try.underlying40 ag40 ty40 rfl hc212) ?_
      have hc213 := hb206.cells (o := 0) (cs := [(.bool (decide (((Int.gcd zx zy : Nat) : Int) < 0))), vr199]) rfl
      refine RL.val rfl rfl (by decide) (r_loada (o := 0) (cs := [(.bool (decide (((Int.gcd zx zy : Nat) : Int) < 0))), vr199]) Try.underlying40 ag40 ty40 rfl hc213) ?_
      replace hx := (hx.tr (Sm.ext (Ext.trans he198 he205))).apn hx210 nb_hx210
      replace hr200 := (hr200.tr (Sm.ext he205)).apn hx210 nb_hx210
      refine RL.call rfl rfl (by decide) (r_call (vl := [(.agg #[(.bool (sx)), vx]), (.agg #[(.bool (decide (((Int.gcd zx zy : Nat) : Int) < 0))), vr199])]) ent44 rfl) (r02_divmod hx (by assumption) (by first | omega | simp) (show sg sx (val x) = zx from ex) hr200 (digs_lm _) (by first | omega | simp) (sg_canon _)) ?_
      rintro _ w214 ⟨⟨vq216, vr219, rfl, hq217, hl218, hr220, hl221⟩, he215⟩
      replace hq217 := hq217.mono (D' := fun b T => w.heap.size ≤ b ∧ T = 52) (fun b T h => ⟨Nat.le_trans hE.size h.1, h.2⟩)
      replace hr220 := hr220.mono (D' := fun b T => w.heap.size ≤ b ∧ T = 52) (fun b T h => ⟨Nat.le_trans hE.size h.1, h.2⟩)
      replace hE := Below.ext hE hE.size he215
      refine RL.val rfl rfl (by decide) (r_move_as (v := (.tuple #[(.agg #[(.bool (decide ((zx / ((Int.gcd zx zy : Nat) : Int)) < 0))), vq216]), (.agg #[(.bool (decide ((modI zx ((Int.gcd zx zy : Nat) : Int)) < 0))), vr219]), (.bool (decide (((Int.gcd zx zy : Nat) : Int) ≠ 0)))])) rfl) ?_
      refine RL.val rfl rfl (by decide) (r_extract (v := (.agg #[(.bool (decide ((zx / ((Int.gcd zx zy : Nat) : Int)) < 0))), vq216])) rfl rfl) ?_
      refine RL.val rfl rfl (by decide) (r_extract (v := (.agg #[(.bool (decide ((modI zx ((Int.gcd zx zy : Nat) : Int)) < 0))), vr219])) rfl rfl) ?_
      refine RL.val rfl rfl (by decide) (r_extract (v := (.bool (decide (((Int.gcd zx zy : Nat) : Int) ≠ 0)))) rfl rfl) ?_
      refine RL.run rfl rfl (by decide) (h_alloc (cs := [(.bool false), (.slice none 0 0)]) ty40 rfl) ?_
      rintro _ w222 ⟨b223, rfl, hs226, hb225, he224⟩
      replace hb206 := hb206.ext he215
      have lt_b204_b223 := Nat.lt_of_lt_of_eq hb206.lt hs226.symm
      have ge_b223 : w.heap.size ≤ b223 := by rw [hs226]; exact hE.size
      replace hE := Below.ext hE hE.size he224
      refine RL.run rfl rfl (by decide) (h_alloc (cs := [(.bool false), (.slice none 0 0)]) ty40 rfl) ?_
      rintro _ w227 ⟨b228, rfl, hs231, hb230, he229⟩
      have lt_b223_b228 := Nat.lt_of_lt_of_eq hb225.lt hs231.symm
      have ge_b228 : w.heap.size ≤ b228 := by rw [hs231]; exact hE.size
      replace hE := Below.ext hE hE.size he229
      replace hb225 := hb225.ext he229
      refine RL.runs rfl rfl (h_store (vv := (.agg #[(.bool (decide ((zx / ((Int.gcd zx zy : Nat) : Int)) < 0))), vq216])) (cs := [(.bool (decide ((zx / ((Int.gcd zx zy : Nat) : Int)) < 0))), vq216]) (o := 0) ty40 rfl rfl rfl rfl (one_cons rfl (one_cons hq217.one one_nil)) hb225 (Nat.le_of_ble_eq_true rfl)) ?_
      rintro w232 ⟨hn233, hx234, hz235⟩
      replace hE := Below.exc hE hE.size hx234 ge_b223
      have nb_hx234 := (Nb.of hb225 (nu_cons rfl (nu_cons rfl nu_nil)))
      replace hb225 : Bk w232 b223 40 [(.bool (decide ((zx / ((Int.gcd zx zy : Nat) : Int)) < 0))), vq216] := hn233
      replace hb230 := hb230.exc hx234 (Nat.ne_of_gt lt_b223_b228)
      refine RL.runs rfl rfl (h_store (vv := (.agg #[(.bool (decide ((modI zx ((Int.gcd zx zy : Nat) : Int)) < 0))), vr219])) (cs := [(.bool (decide ((modI zx ((Int.gcd zx zy : Nat) : Int)) < 0))), vr219]) (o := 0) ty40 rfl rfl rfl rfl (one_cons rfl (one_cons hr220.one one_nil)) hb230 (Nat.le_of_ble_eq_true rfl)) ?_
      rintro w236 ⟨hn237, hx238, hz239⟩
      replace hE := Below.exc hE hE.size hx238 ge_b228
      have nb_hx238 := (Nb.of hb230 (nu_cons rfl (nu_cons rfl nu_nil)))
      replace hb230 : Bk w236 b228 40 [(.bool (decide ((modI zx ((Int.gcd zx zy : Nat) : Int)) < 0))), vr219] := hn237
      refine RL.val rfl rfl (by decide) (r_assign_as (v := (.bool (decide (((Int.gcd zx zy : Nat) : Int) ≠ 0)))) rfl) ?_
      refine RL.nil ?_
      refine wseq ?_
      refine wregion ?_
      have hm241 := Ext.trans he215 (Ext.trans he224 he229)
      replace hb9 := ((((hb9.ext (Ext.trans he198 he205)).exc hx210 (Nat.ne_of_lt (Nat.lt_trans lt_b7_b12 (Nat.lt_trans lt_b12_b41 lt_b41_b204)))).ext hm241).exc hx234 (Nat.ne_of_lt (Nat.lt_trans lt_b7_b12 (Nat.lt_trans lt_b12_b41 (Nat.lt_trans lt_b41_b204 lt_b204_b223))))).exc hx238 (Nat.ne_of_lt (Nat.lt_trans lt_b7_b12 (Nat.lt_trans lt_b12_b41 (Nat.lt_trans lt_b41_b204 (Nat.lt_trans lt_b204_b223 lt_b223_b228)))))
      have hc240 := hb9.cells (o := 0) (cs := [(.bool (sy)), vy]) rfl
      refine RL.val rfl rfl (by decide) (r_loada (o := 0) (cs := [(.bool (sy)), vy]) Try.underlying40 ag40 ty40 rfl hc240) ?_
      replace hb206 := ((hb206.ext (Ext.trans he224 he229)).exc hx234 (Nat.ne_of_lt lt_b204_b223)).exc hx238 (Nat.ne_of_lt (Nat.lt_trans lt_b204_b223 lt_b223_b228))
      have hc242 := hb206.cells (o := 0) (cs := [(.bool (decide (((Int.gcd zx zy : Nat) : Int) < 0))), vr199]) rfl
      refine RL.val rfl rfl (by decide) (r_loada (o := 0) (cs := [(.bool (decide (((Int.gcd zx zy : Nat) : Int) < 0))), vr199]) Try.underlying40 ag40 ty40 rfl hc242) ?_
      replace hy := ((((hy.tr (Sm.ext (Ext.trans he198 he205))).apn hx210 nb_hx210).tr (Sm.ext hm241)).apn hx234 nb_hx234).apn hx238 nb_hx238
      replace hr200 := ((hr200.tr (Sm.ext hm241)).apn hx234 nb_hx234).apn hx238 nb_hx238
      refine RL.call rfl rfl (by decide) (r_call (vl := [(.agg #[(.bool (sy)), vy]), (.agg #[(.bool (decide (((Int.gcd zx zy : Nat) : Int) < 0))), vr199])]) ent44 rfl) (r02_divmod hy (by assumption) (by first | omega | simp) (show sg sy (val y) = zy from ey) hr200 (digs_lm _) (by first | omega | simp) (sg_canon _)) ?_
      rintro _ w243 ⟨⟨vq245, vr248, rfl, hq246, hl247, hr249, hl250⟩, he244⟩
      replace hq246 := hq246.mono (D' := fun b T => w.heap.size ≤ b ∧ T = 52) (fun b T h => ⟨Nat.le_trans hE.size h.1, h.2⟩)
      replace hr249 := hr249.mono (D' := fun b T => w.heap.size ≤ b ∧ T = 52) (fun b T h => ⟨Nat.le_trans hE.size h.1, h.2⟩)
      replace hE := Below.ext hE hE.size he244
      refine RL.val rfl rfl (by decide) (r_move_as (v := (.tuple #[(.agg #[(.bool (decide ((zy / ((Int.gcd zx zy : Nat) : Int)) < 0))), vq245]), (.agg #[(.bool (decide ((modI zy ((Int.gcd zx zy : Nat) : Int)) < 0))), vr248]), (.bool (decide (((Int.gcd zx zy : Nat) : Int) ≠ 0)))])) rfl) ?_
      refine RL.val rfl rfl (by decide) (r_extract (v := (.agg #[(.bool (decide ((zy / ((Int.gcd zx zy : Nat) : Int)) < 0))), vq245])) rfl rfl) ?_
      refine RL.val rfl rfl (by decide) (r_extract (v := (.agg #[(.bool (decide ((modI zy ((Int.gcd zx zy : Nat) : Int)) < 0))), vr248])) rfl rfl) ?_
      refine RL.val rfl rfl (by decide) (r_extract (v := (.bool (decide (((Int.gcd zx zy : Nat) : Int) ≠ 0)))) rfl rfl) ?_
      refine RL.run rfl rfl (by decide) (h_alloc (cs := [(.bool false), (.slice none 0 0)]) ty40 rfl) ?_
      rintro _ w251 ⟨b252, rfl, hs255, hb254, he253⟩
      replace hb230 := hb230.ext he244
      have lt_b228_b252 := Nat.lt_of_lt_of_eq hb230.lt hs255.symm
      have ge_b252 : w.heap.size ≤ b252 := by rw [hs255]; exact hE.size
      replace hE := Below.ext hE hE.size he253
      refine RL.run rfl rfl (by decide) (h_alloc (cs := [(.bool false), (.slice none 0 0)]) ty40 rfl) ?_
      rintro _ w256 ⟨b257, rfl, hs260, hb259, he258⟩
      have lt_b252_b257 := Nat.lt_of_lt_of_eq hb254.lt hs260.symm
      have ge_b257 : w.heap.size ≤ b257 := by rw [hs260]; exact hE.size
      replace hE := Below.ext hE hE.size he258
      replace hb254 := hb254.ext he258
      refine RL.runs rfl rfl (h_store (vv := (.agg #[(.bool (decide ((zy / ((Int.gcd zx zy : Nat) : Int)) < 0))), vq245])) (cs := [(.bool (decide ((zy / ((Int.gcd zx zy : Nat) : Int)) < 0))), vq245]) (o := 0) ty40 rfl rfl rfl rfl (one_cons rfl (one_cons hq246.one one_nil)) hb254 (Nat.le_of_ble_eq_true rfl)) ?_
      rintro w261 ⟨hn262, hx263, hz264⟩
      replace hE := Below.exc hE hE.size hx263 ge_b252
      have nb_hx263 := (Nb.of hb254 (nu_cons rfl (nu_cons rfl nu_nil)))
      replace hb254 : Bk w261 b252 40 [(.bool (decide ((zy / ((Int.gcd zx zy : Nat) : Int)) < 0))), vq245] := hn262
      replace hb259 := hb259.exc hx263 (Nat.ne_of_gt lt_b252_b257)
      refine RL.runs rfl rfl (h_store (vv := (.agg #[(.bool (decide ((modI zy ((Int.gcd zx zy : Nat) : Int)) < 0))), vr248])) (cs := [(.bool (decide ((modI zy ((Int.gcd zx zy : Nat) : Int)) < 0))), vr248]) (o := 0) ty40 rfl rfl rfl rfl (one_cons rfl (one_cons hr249.one one_nil)) hb259 (Nat.le_of_ble_eq_true rfl)) ?_
      rintro w265 ⟨hn266, hx267, hz268⟩
      replace hE := Below.exc hE hE.size hx267 ge_b257
      have nb_hx267 := (Nb.of hb259 (nu_cons rfl (nu_cons rfl nu_nil)))
      replace hb259 : Bk w265 b257 40 [(.bool (decide ((modI zy ((Int.gcd zx zy : Nat) : Int)) < 0))), vr248] := hn266
      refine RL.val rfl rfl (by decide) (r_assign_as (v := (.bool (decide (((Int.gcd zx zy : Nat) : Int) ≠ 0)))) rfl) ?_
      refine RL.nil ?_
      refine wseq ?_
      refine wseq ?_
      refine wregion ?_
      refine RL.val rfl rfl (by decide) (r_fieldAddr Try.underlying40 rfl ty4 rfl) ?_
      replace hb254 := hb254.exc hx267 (Nat.ne_of_lt lt_b252_b257)
      have hc269 := hb254.cell (j := 0) (u := (.bool (decide ((zy / ((Int.gcd zx zy : Nat) : Int)) < 0)))) rfl
      refine RL.val rfl rfl (by decide) (r_load (v := (.bool (decide ((zy / ((Int.gcd zx zy : Nat) : Int)) < 0)))) Try.underlying4 ag4 rfl hc269) ?_
      refine RL.nil ?_
      refine wcond (b := decide ((zy / ((Int.gcd zx zy : Nat) : Int)) < 0)) rfl (fun hb270 => ?_) (fun hb270 => ?_)
      · have hb270p := hb270
        replace hb270p := of_decide_eq_true hb270p
        have hd := hb270p
        refine wdraw mixed fun w271 he272 => ?_
        replace hE := Below.ext hE hE.size he272
        have hm274 := Ext.trans he244 (Ext.trans he253 he258)
        replace hb225 := ((((hb225.exc hx238 (Nat.ne_of_lt lt_b223_b228)).ext hm274).exc hx263 (Nat.ne_of_lt (Nat.lt_trans lt_b223_b228 lt_b228_b252))).exc hx267 (Nat.ne_of_lt (Nat.lt_trans lt_b223_b228 (Nat.lt_trans lt_b228_b252 lt_b252_b257)))).ext he272
        have hc273 := hb225.cells (o := 0) (cs := [(.bool (decide ((zx / ((Int.gcd zx zy : Nat) : Int)) < 0))), vq216]) rfl
        refine RA.rd 0 rfl (by kernel_rfl) rfl rfl rfl (by decide) (Ext.refl _) (fun u hu => r_loada (o := 0) (cs := [(.bool (decide ((zx / ((Int.gcd zx zy : Nat) : Int)) < 0))), vq216]) Try.underlying40 ag40 ty40 rfl (fun j v hj => cell_ext hu (hc273 j v hj))) ?_
        replace hb254 := hb254.ext he272
        have hc275 := hb254.cells (o := 0) (cs := [(.bool (decide ((zy / ((Int.gcd zx zy : Nat) : Int)) < 0))), vq245]) rfl
        refine RA.rd 2 rfl (by kernel_rfl) rfl rfl rfl (by decide) (Ext.refl _) (fun u hu => r_loada (o := 0) (cs := [(.bool (decide ((zy / ((Int.gcd zx zy : Nat) : Int)) < 0))), vq245]) Try.underlying40 ag40 ty40 rfl (fun j v hj => cell_ext hu (hc275 j v hj))) ?_
        refine RA.all [1] (by kernel_rfl) rfl ?_
        replace hq217 := ((((((hq217.tr (Sm.ext (Ext.trans he224 he229))).apn hx234 nb_hx234).apn hx238 nb_hx238).tr (Sm.ext hm274)).apn hx263 nb_hx263).apn hx267 nb_hx267).tr (Sm.ext he272)
        refine RS.call rfl rfl rfl (by decide) (r_call (vl := [(.agg #[(.bool (decide ((zx / ((Int.gcd zx zy : Nat) : Int)) < 0))), vq216])]) ent45 rfl) (r02_neg hq217 (digs_lm _) (by first | omega | simp) (sg_canon _)) ?_ RS.nil
        rintro _ w276 ⟨⟨vr278, rfl, hr279, hl280⟩, he277⟩
        refine ⟨.inr (.inr he277), RA.more (S' := fun u => Ext _ u) (fun u hu => Ext.trans he277 hu) ?_⟩
        replace hr279 := hr279.mono (D' := fun b T => w.heap.size ≤ b ∧ T = 52) (fun b T h => ⟨Nat.le_trans hE.size h.1, h.2⟩)
        replace hE := Below.ext hE hE.size he277
        refine RA.all [3] (by kernel_rfl) rfl ?_
        replace hq246 := (((hq246.tr (Sm.ext (Ext.trans he253 he258))).apn hx263 nb_hx263).apn hx267 nb_hx267).tr (Sm.ext (Ext.trans he272 he277))
        refine RS.call rfl rfl rfl (by decide) (r_call (vl := [(.agg #[(.bool (decide ((zy / ((Int.gcd zx zy : Nat) : Int)) < 0))), vq245])]) ent45 rfl) (r02_neg hq246 (digs_lm _) (by first | omega | simp) (sg_canon _)) ?_ RS.nil
        rintro _ w281 ⟨⟨vr283, rfl, hr284, hl285⟩, he282⟩
        refine ⟨.inr (.inr he282), RA.more (S' := fun u => Ext _ u) (fun u hu => Ext.trans he282 hu) ?_⟩
        replace hr284 := hr284.mono (D' := fun b T => w.heap.size ≤ b ∧ T = 52) (fun b T h => ⟨Nat.le_trans hE.size h.1, h.2⟩)
        replace hE := Below.ext hE hE.size he282
        refine RA.all [4] (by kernel_rfl) rfl ?_
        replace hb225 := hb225.ext (Ext.trans he277 he282)
        refine RS.runs rfl rfl rfl (h_store (vv := (.agg #[(.bool (decide ((-(zx / ((Int.gcd zx zy : Nat) : Int))) < 0))), vr278])) (cs := [(.bool (decide ((-(zx / ((Int.gcd zx zy : Nat) : Int))) < 0))), vr278]) (o := 0) ty40 rfl rfl rfl rfl (one_cons rfl (one_cons hr279.one one_nil)) hb225 (Nat.le_of_ble_eq_true rfl)) ?_ RS.nil
        rintro w286 ⟨hn287, hx288, hz289⟩
        refine ⟨.inr (.inl (by kernel_rfl)), ?_⟩
        replace hE := Below.exc hE hE.size hx288 ge_b223
        have nb_hx288 := (Nb.of hb225 (nu_cons rfl (nu_cons hq217.nu nu_nil)))
        replace hb225 : Bk w286 b223 40 [(.bool (decide ((-(zx / ((Int.gcd zx zy : Nat) : Int))) < 0))), vr278] := hn287
        refine RA.all [5] (by kernel_rfl) rfl ?_
        replace hb254 := (hb254.ext (Ext.trans he277 he282)).exc hx288 (Nat.ne_of_gt (Nat.lt_trans lt_b223_b228 lt_b228_b252))
        refine RS.runs rfl rfl rfl (h_store (vv := (.agg #[(.bool (decide ((-(zy / ((Int.gcd zx zy : Nat) : Int))) < 0))), vr283])) (cs := [(.bool (decide ((-(zy / ((Int.gcd zx zy : Nat) : Int))) < 0))), vr283]) (o := 0) ty40 rfl rfl rfl rfl (one_cons rfl (one_cons hr284.one one_nil)) hb254 (Nat.le_of_ble_eq_true rfl)) ?_ RS.nil
        rintro w290 ⟨hn291, hx292, hz293⟩
        refine ⟨.inr (.inl (by kernel_rfl)), ?_⟩
        replace hE := Below.exc hE hE.size hx292 ge_b252
        have nb_hx292 := (Nb.of hb254 (nu_cons rfl (nu_cons hq246.nu nu_nil)))
        replace hb254 : Bk w290 b252 40 [(.bool (decide ((-(zy / ((Int.gcd zx zy : Nat) : Int))) < 0))), vr283] := hn291
        refine RA.done (by kernel_rfl) ?_
        refine wseq ?_
        refine wregion ?_
        replace hb225 := hb225.exc hx292 (Nat.ne_of_lt (Nat.lt_trans lt_b223_b228 lt_b228_b252))
        have hc294 := hb225.cells (o := 0) (cs := [(.bool (decide ((-(zx / ((Int.gcd zx zy : Nat) : Int))) < 0))), vr278]) rfl
        refine RL.val rfl rfl (by decide) (r_loada (o := 0) (cs := [(.bool (decide ((-(zx / ((Int.gcd zx zy : Nat) : Int))) < 0))), vr278]) Try.underlying40 ag40 ty40 rfl hc294) ?_
        refine RL.val rfl rfl (by decide) (r_fieldAddr Try.underlying40 rfl ty38 rfl) ?_
        have hc295 := hb254.cell (j := 1) (u := vr283) rfl
        refine RL.val rfl rfl (by decide) (r_load (v := vr283) Try.underlying38 ag38 rfl hc295) ?_
        refine RL.val rfl rfl (by decide) (r_build (vl := [(0, (.agg #[(.bool (decide ((-(zx / ((Int.gcd zx zy : Nat) : Int))) < 0))), vr278])), (1, vr283)]) (cs := [(.bool (decide ((-(zx / ((Int.gcd zx zy : Nat) : Int))) < 0))), vr278, vr283]) Try.underlying42 ty42 rfl pl42 (by obtain ⟨_, _, e0_, -, -⟩ := hr284.len; simp only [e0_]; rfl)) ?_
        have hm300 := Ext.trans he272 (Ext.trans he277 he282)
        replace hb14 := ((((((((((((hb14.ext he42).exc hx47 (Nat.ne_of_lt lt_b12_b41)).ext (Ext.trans he198 he205)).exc hx210 (Nat.ne_of_lt (Nat.lt_trans lt_b12_b41 lt_b41_b204))).ext hm241).exc hx234 (Nat.ne_of_lt (Nat.lt_trans lt_b12_b41 (Nat.lt_trans lt_b41_b204 lt_b204_b223)))).exc hx238 (Nat.ne_of_lt (Nat.lt_trans lt_b12_b41 (Nat.lt_trans lt_b41_b204 (Nat.lt_trans lt_b204_b223 lt_b223_b228))))).ext hm274).exc hx263 (Nat.ne_of_lt (Nat.lt_trans lt_b12_b41 (Nat.lt_trans lt_b41_b204 (Nat.lt_trans lt_b204_b223 (Nat.lt_trans lt_b223_b228 lt_b228_b252)))))).exc hx267 (Nat.ne_of_lt (Nat.lt_trans lt_b12_b41 (Nat.lt_trans lt_b41_b204 (Nat.lt_trans lt_b204_b223 (Nat.lt_trans lt_b223_b228 (Nat.lt_trans lt_b228_b252 lt_b252_b257))))))).ext hm300).exc hx288 (Nat.ne_of_lt (Nat.lt_trans lt_b12_b41 (Nat.lt_trans lt_b41_b204 lt_b204_b223)))).exc hx292 (Nat.ne_of_lt (Nat.lt_trans lt_b12_b41 (Nat.lt_trans lt_b41_b204 (Nat.lt_trans lt_b204_b223 (Nat.lt_trans lt_b223_b228 lt_b228_b252)))))
        refine RL.runs rfl rfl (h_store (vv := (.agg #[(.bool (decide ((-(zx / ((Int.gcd zx zy : Nat) : Int))) < 0))), vr278, vr283])) (cs := [(.bool (decide ((-(zx / ((Int.gcd zx zy : Nat) : Int))) < 0))), vr278, vr283]) (o := 0) ty42 rfl rfl rfl rfl (one_cons rfl (one_cons hr279.one (one_cons hr284.one one_nil))) hb14 (Nat.le_of_ble_eq_true rfl)) ?_
        rintro w296 ⟨hn297, hx298, hz299⟩
        replace hE := Below.exc hE hE.size hx298 ge_b12
        have nb_hx298 := (Nb.of hb14 (nu_cons rfl (nu_cons rfl (nu_cons rfl nu_nil))))
        replace hb14 : Bk w296 b12 42 [(.bool (decide ((-(zx / ((Int.gcd zx zy : Nat) : Int))) < 0))), vr278, vr283] := hn297
        refine RL.nil ?_
        refine wret ?_
        refine ⟨[(.agg #[(.bool (decide ((-(zx / ((Int.gcd zx zy : Nat) : Int))) < 0))), vr278, vr283])], ⟨⟨_, _, [(.bool (decide ((-(zx / ((Int.gcd zx zy : Nat) : Int))) < 0))), vr278, vr283], rfl, ⟨_, Try.underlying42⟩, hb14.cells rfl, .inl ⟨ag42, ⟨_, _, ty42⟩, rfl⟩⟩, trivial⟩, ?_⟩
        have e1 : (Rat.divInt zx zy).num = (-(zx / ((Int.gcd zx zy : Nat) : Int))) ∧ (Rat.divInt zx zy).den = (-(zy / ((Int.gcd zx zy : Nat) : Int))).natAbs := by
          first | (rw [hy1]; exact divInt_one zx) | exact hlaw.1 hd | exact hlaw.2 hd
        have hl1 := rl_num (a := zx) (b := zy)
        have hl2 := rl_den (a := zx) (b := zy)
        replace hr279 := (((hr279.tr (Sm.ext he282)).apn hx288 nb_hx288).apn hx292 nb_hx292).apn hx298 nb_hx298
        replace hr284 := ((hr284.apn hx288 nb_hx288).apn hx292 nb_hx292).apn hx298 nb_hx298
        exact ⟨⟨_, _, agg3 (by rw [e1.1]), by rw [e1.1]; exact hr279, by rw [e1.2]; exact hr284, by omega, by omega⟩, hE⟩
      · have hb270p := hb270
        replace hb270p := of_decide_eq_false hb270p
        have hd := hb270p
        refine wskip ?_
        refine wseq ?_
        refine wregion ?_
        have hm302 := Ext.trans he244 (Ext.trans he253 he258)
        replace hb225 := (((hb225.exc hx238 (Nat.ne_of_lt lt_b223_b228)).ext hm302).exc hx263 (Nat.ne_of_lt (Nat.lt_trans lt_b223_b228 lt_b228_b252))).exc hx267 (Nat.ne_of_lt (Nat.lt_trans lt_b223_b228 (Nat.lt_trans lt_b228_b252 lt_b252_b257)))
        have hc301 := hb225.cells (o := 0) (cs := [(.bool (decide ((zx / ((Int.gcd zx zy : Nat) : Int)) < 0))), vq216]) rfl
        refine RL.val rfl rfl (by decide) (r_loada (o := 0) (cs := [(.bool (decide ((zx / ((Int.gcd zx zy : Nat) : Int)) < 0))), vq216]) Try.underlying40 ag40 ty40 rfl hc301) ?_
        refine RL.val rfl rfl (by decide) (r_fieldAddr Try.underlying40 rfl ty38 rfl) ?_
        have hc303 := hb254.cell (j := 1) (u := vq245) rfl
        refine RL.val rfl rfl (by decide) (r_load (v := vq245) Try.underlying38 ag38 rfl hc303) ?_
        refine RL.val rfl rfl (by decide) (r_build (vl := [(0, (.agg #[(.bool (decide ((zx / ((Int.gcd zx zy : Nat) : Int)) < 0))), vq216])), (1, vq245)]) (cs := [(.bool (decide ((zx / ((Int.gcd zx zy : Nat) : Int)) < 0))), vq216, vq245]) Try.underlying42 ty42 rfl pl42 (by obtain ⟨_, _, e0_, -, -⟩ := hq246.len; simp only [e0_]; rfl)) ?_
        replace hb14 := (((((((((hb14.ext he42).exc hx47 (Nat.ne_of_lt lt_b12_b41)).ext (Ext.trans he198 he205)).exc hx210 (Nat.ne_of_lt (Nat.lt_trans lt_b12_b41 lt_b41_b204))).ext hm241).exc hx234 (Nat.ne_of_lt (Nat.lt_trans lt_b12_b41 (Nat.lt_trans lt_b41_b204 lt_b204_b223)))).exc hx238 (Nat.ne_of_lt (Nat.lt_trans lt_b12_b41 (Nat.lt_trans lt_b41_b204 (Nat.lt_trans lt_b204_b223 lt_b223_b228))))).ext hm302).exc hx263 (Nat.ne_of_lt (Nat.lt_trans lt_b12_b41 (Nat.lt_trans lt_b41_b204 (Nat.lt_trans lt_b204_b223 (Nat.lt_trans lt_b223_b228 lt_b228_b252)))))).exc hx267 (Nat.ne_of_lt (Nat.lt_trans lt_b12_b41 (Nat.lt_trans lt_b41_b204 (Nat.lt_trans lt_b204_b223 (Nat.lt_trans lt_b223_b228 (Nat.lt_trans lt_b228_b252 lt_b252_b257))))))
        refine RL.runs rfl rfl (h_store (vv := (.agg #[(.bool (decide ((zx / ((Int.gcd zx zy : Nat) : Int)) < 0))), vq216, vq245])) (cs := [(.bool (decide ((zx / ((Int.gcd zx zy : Nat) : Int)) < 0))), vq216, vq245]) (o := 0) ty42 rfl rfl rfl rfl (one_cons rfl (one_cons hq217.one (one_cons hq246.one one_nil))) hb14 (Nat.le_of_ble_eq_true rfl)) ?_
        rintro w304 ⟨hn305, hx306, hz307⟩
        replace hE := Below.exc hE hE.size hx306 ge_b12
        have nb_hx306 := (Nb.of hb14 (nu_cons rfl (nu_cons rfl (nu_cons rfl nu_nil))))
        replace hb14 : Bk w304 b12 42 [(.bool (decide ((zx / ((Int.gcd zx zy : Nat) : Int)) < 0))), vq216, vq245] := hn305
        refine RL.nil ?_
        refine wret ?_
        refine ⟨[(.agg #[(.bool (decide ((zx / ((Int.gcd zx zy : Nat) : Int)) < 0))), vq216, vq245])], ⟨⟨_, _, [(.bool (decide ((zx / ((Int.gcd zx zy : Nat) : Int)) < 0))), vq216, vq245], rfl, ⟨_, Try.underlying42⟩, hb14.cells rfl, .inl ⟨ag42, ⟨_, _, ty42⟩, rfl⟩⟩, trivial⟩, ?_⟩
        have e1 : (Rat.divInt zx zy).num = (zx / ((Int.gcd zx zy : Nat) : Int)) ∧ (Rat.divInt zx zy).den = (zy / ((Int.gcd zx zy : Nat) : Int)).natAbs := by
          first | (rw [hy1]; exact divInt_one zx) | exact hlaw.1 hd | exact hlaw.2 hd
        have hl1 := rl_num (a := zx) (b := zy)
        have hl2 := rl_den (a := zx) (b := zy)
        replace hq217 := ((((((hq217.tr (Sm.ext (Ext.trans he224 he229))).apn hx234 nb_hx234).apn hx238 nb_hx238).tr (Sm.ext hm302)).apn hx263 nb_hx263).apn hx267 nb_hx267).apn hx306 nb_hx306
        replace hq246 := (((hq246.tr (Sm.ext (Ext.trans he253 he258))).apn hx263 nb_hx263).apn hx267 nb_hx267).apn hx306 nb_hx306
        exact ⟨⟨_, _, agg3 (by rw [e1.1]), by rw [e1.1]; exact hq217, by rw [e1.2]; exact hq246, by omega, by omega⟩, hE⟩

set_option maxHeartbeats 1000000 in
theorem r03_norm {w : World} {sx : Bool} {Dx Ex : Nat → TypeId → Prop} {vx ux : Value} {x dx : List Nat} (hx : Sg (gN .u32) Dx w vx x) (lmx : Lm x) (lnx : x.length ≤ 17179869184) (hdx : Sg (gN .u32) Ex w ux dx) (lmdx : Lm dx) (lndx : dx.length ≤ 17179869184) {qx : Rat} (ex : ratOf sx (val x) (val dx) = qx) :
    Calls Try.prog 38 #[(.agg #[(.bool (sx)), vx, ux])] w fun e w' => ∃ v, e = .returned v ∧ (∃ vn vd, v = .agg #[.bool (decide (qx.num < 0)), vn, vd] ∧ Sg (gN .u32) (fun b T => w.heap.size ≤ b ∧ T = 52) w' vn (digs qx.num.natAbs) ∧ Sg (gN .u32) (fun b T => w.heap.size ≤ b ∧ T = 52) w' vd (digs qx.den) ∧ (digs qx.num.natAbs).length ≤ x.length ∧ (digs qx.den).length ≤ dx.length + 1) ∧ Ext w w' := by
  have hE : Below w.heap.size w w := Below.refl _ _
  have hlqx := rl_of lmx lmdx ex
  have hdqx := den_one qx
  refine calls_of (n := 9) (rs := [.cell 2 42]) Try.func38 rfl rfl rfl (Nat.le_of_ble_eq_true rfl) ?_
  refine wset fun F0 hF0 => ?_
  refine wseq ?_
  refine wregion ?_
  refine RL.run rfl rfl (by decide) (h_box (vv := (.agg #[(.bool (sx)), vx, ux])) (cs := [(.bool (sx)), vx, ux]) (hF0 0) rfl) ?_
  rintro _ w1 ⟨b2, rfl, hs5, hb4, he3⟩
  have ge_b2 : w.heap.size ≤ b2 := by rw [hs5]; exact hE.size
  replace hE := Below.ext hE hE.size he3
  refine RL.run rfl rfl (by decide) (h_alloc (cs := [(.bool false), (.slice none 0 0), (.slice none 0 0)]) ty42 rfl) ?_
  rintro _ w6 ⟨b7, rfl, hs10, hb9, he8⟩
  have lt_b2_b7 := Nat.lt_of_lt_of_eq hb4.lt hs10.symm
  have ge_b7 : w.heap.size ≤ b7 := by rw [hs10]; exact hE.size
  replace hE := Below.ext hE hE.size he8
  refine RL.nil ?_
  refine wseq ?_
  refine wregion ?_
  refine RL.val rfl rfl (by decide) (r_fieldAddr Try.underlying42 rfl ty40 rfl) ?_
  replace hb4 := hb4.ext he8
  have hc11 := hb4.cells (o := 0) (cs := [(.bool (sx)), vx]) rfl
  refine RL.val rfl rfl (by decide) (r_loada (o := 0) (cs := [(.bool (sx)), vx]) Try.underlying40 ag40 ty40 rfl hc11) ?_
  refine RL.val rfl rfl (by decide) (r_fieldAddr Try.underlying42 rfl ty38 rfl) ?_
  have hc12 := hb4.cell (j := 2) (u := ux) rfl
  refine RL.val rfl rfl (by decide) (r_load (v := ux) Try.underlying38 ag38 rfl hc12) ?_
  refine RL.val rfl rfl (by decide) (r_build (vl := [(1, ux)]) (cs := [(.bool false), ux]) Try.underlying40 ty40 rfl pl40 (by obtain ⟨_, _, e0_, -, -⟩ := hdx.len; simp only [e0_]; rfl)) ?_
  replace hx := hx.tr (Sm.ext (Ext.trans he3 he8))
  replace hdx := hdx.tr (Sm.ext (Ext.trans he3 he8))
  refine RL.call rfl rfl (by decide) (r_call (vl := [(.agg #[(.bool (sx)), vx]), (.agg #[(.bool false), ux])]) ent25 rfl) (r03_make hx (by assumption) (by first | omega | simp) rfl hdx (by assumption) (by first | omega | simp) rfl) ?_
  rintro _ w13 ⟨⟨vn15, vd17, rfl, hn16, hd18, hl19, hl20⟩, he14⟩
  have hlv21 := den_one (Rat.divInt (sg sx (val x)) (sg false (val dx)))
  replace hn16 := hn16.mono (D' := fun b T => w.heap.size ≤ b ∧ T = 52) (fun b T h => ⟨Nat.le_trans hE.size h.1, h.2⟩)
  replace hd18 := hd18.mono (D' := fun b T => w.heap.size ≤ b ∧ T = 52) (fun b T h => ⟨Nat.le_trans hE.size h.1, h.2⟩)
  replace hE := Below.ext hE hE.size he14
  replace hb9 := hb9.ext he14
  refine RL.runs rfl rfl (h_store (vv := (.agg #[(.bool (decide ((Rat.divInt (sg sx (val x)) (sg false (val dx))).num < 0))), vn15, vd17])) (cs := [(.bool (decide ((Rat.divInt (sg sx (val x)) (sg false (val dx))).num < 0))), vn15, vd17]) (o := 0) ty42 rfl rfl rfl rfl (one_cons rfl (one_cons hn16.one (one_cons hd18.one one_nil))) hb9 (Nat.le_of_ble_eq_true rfl)) ?_
  rintro w22 ⟨hn23, hx24, hz25⟩
  replace hE := Below.exc hE hE.size hx24 ge_b7
  have nb_hx24 := (Nb.of hb9 (nu_cons rfl (nu_cons rfl (nu_cons rfl nu_nil))))
  replace hb9 : Bk w22 b7 42 [(.bool (decide ((Rat.divInt (sg sx (val x)) (sg false (val dx))).num < 0))), vn15, vd17] := hn23
  refine RL.nil ?_
  refine wret ?_
  refine ⟨[(.agg #[(.bool (decide ((Rat.divInt (sg sx (val x)) (sg false (val dx))).num < 0))), vn15, vd17])], ⟨⟨_, _, [(.bool (decide ((Rat.divInt (sg sx (val x)) (sg false (val dx))).num < 0))), vn15, vd17], rfl, ⟨_, Try.underlying42⟩, hb9.cells rfl, .inl ⟨ag42, ⟨_, _, ty42⟩, rfl⟩⟩, trivial⟩, ?_⟩
  have hq : (Rat.divInt (sg sx (val x)) (sg false (val dx))) = qx := ex
  rw [← hq]
  replace hn16 := hn16.apn hx24 nb_hx24
  replace hd18 := hd18.apn hx24 nb_hx24
  exact ⟨⟨_, _, rfl, hn16, hd18, by omega, by omega⟩, hE⟩

set_option maxHeartbeats 1000000 in
theorem r03_den {w : World} {sx : Bool} {Dx Ex : Nat → TypeId → Prop} {vx ux : Value} {x dx : List Nat} (hx : Sg (gN .u32) Dx w vx x) (lmx : Lm x) (lnx : x.length ≤ 17179869184) (hdx : Sg (gN .u32) Ex w ux dx) (lmdx : Lm dx) (lndx : dx.length ≤ 17179869184) {qx : Rat} (ex : ratOf sx (val x) (val dx) = qx) :
    Calls Try.prog 39 #[(.agg #[(.bool (sx)), vx, ux])] w fun e w' => ∃ v, e = .returned v ∧ (∃ vr, v = .agg #[.bool (decide (((qx.den : Nat) : Int) < 0)), vr] ∧ Sg (gN .u32) (fun b T => w.heap.size ≤ b ∧ T = 52) w' vr (digs ((qx.den : Nat) : Int).natAbs) ∧ (digs ((qx.den : Nat) : Int).natAbs).length ≤ dx.length + 1) ∧ Ext w w' := by
  have hE : Below w.heap.size w w := Below.refl _ _
  have hlqx := rl_of lmx lmdx ex
  have hdqx := den_one qx
  refine calls_of (n := 7) (rs := [.cell 2 40]) Try.func39 rfl rfl rfl (Nat.le_of_ble_eq_true rfl) ?_
  refine wset fun F0 hF0 => ?_
  refine wseq ?_
  refine wregion ?_
  refine RL.run rfl rfl (by decide) (h_box (vv := (.agg #[(.bool (sx)), vx, ux])) (cs := [(.bool (sx)), vx, ux]) (hF0 0) rfl) ?_
  rintro _ w1 ⟨b2, rfl, hs5, hb4, he3⟩
  have ge_b2 : w.heap.size ≤ b2 := by rw [hs5]; exact hE.size
  replace hE := Below.ext hE hE.size he3
  refine RL.run rfl rfl (by decide) (h_alloc (cs := [(.bool false), (.slice none 0 0)]) ty40 rfl) ?_
  rintro _ w6 ⟨b7, rfl, hs10, hb9, he8⟩
  have lt_b2_b7 := Nat.lt_of_lt_of_eq hb4.lt hs10.symm
  have ge_b7 : w.heap.size ≤ b7 := by rw [hs10]; exact hE.size
  replace hE := Below.ext hE hE.size he8
  refine RL.nil ?_
  refine wseq ?_
  refine wregion ?_
  replace hb4 := hb4.ext he8
  have hc11 := hb4.cells (o := 0) (cs := [(.bool (sx)), vx, ux]) rfl
  refine RL.val rfl rfl (by decide) (r_loada (o := 0) (cs := [(.bool (sx)), vx, ux]) Try.underlying42 ag42 ty42 rfl hc11) ?_
  replace hx := hx.tr (Sm.ext (Ext.trans he3 he8))
  replace hdx := hdx.tr (Sm.ext (Ext.trans he3 he8))
  refine RL.call rfl rfl (by decide) (r_call (vl := [(.agg #[(.bool (sx)), vx, ux])]) ent38 rfl) (r03_norm hx (by assumption) (by first | omega | simp) hdx (by assumption) (by first | omega | simp) (show ratOf sx (val x) (val dx) = qx from ex)) ?_
  rintro _ w12 ⟨⟨vn14, vd16, rfl, hn15, hd17, hl18, hl19⟩, he13⟩
  have hlv20 := den_one qx
  replace hn15 := hn15.mono (D' := fun b T => w.heap.size ≤ b ∧ T = 52) (fun b T h => ⟨Nat.le_trans hE.size h.1, h.2⟩)
  replace hd17 := hd17.mono (D' := fun b T => w.heap.size ≤ b ∧ T = 52) (fun b T h => ⟨Nat.le_trans hE.size h.1, h.2⟩)
  replace hE := Below.ext hE hE.size he13
  refine RL.val rfl rfl (by decide) (r_field (v := vd16) Try.underlying42 rfl Try.underlying38 ag38 rfl rfl) ?_
  refine RL.val rfl rfl (by decide) (r_build (vl := [(1, vd16)]) (cs := [(.bool false), vd16]) Try.underlying40 ty40 rfl pl40 (by obtain ⟨_, _, e0_, -, -⟩ := hd17.len; simp only [e0_]; rfl)) ?_
  replace hb9 := hb9.ext he13
  refine RL.runs rfl rfl (h_store (vv := (.agg #[(.bool false), vd16])) (cs := [(.bool false), vd16]) (o := 0) ty40 rfl rfl rfl rfl (one_cons rfl (one_cons hd17.one one_nil)) hb9 (Nat.le_of_ble_eq_true rfl)) ?_
  rintro w21 ⟨hn22, hx23, hz24⟩
  replace hE := Below.exc hE hE.size hx23 ge_b7
  have nb_hx23 := (Nb.of hb9 (nu_cons rfl (nu_cons rfl nu_nil)))
  replace hb9 : Bk w21 b7 40 [(.bool false), vd16] := hn22
  refine RL.nil ?_
  refine wret ?_
  refine ⟨[(.agg #[(.bool false), vd16])], ⟨⟨_, _, [(.bool false), vd16], rfl, ⟨_, Try.underlying40⟩, hb9.cells rfl, .inl ⟨ag40, ⟨_, _, ty40⟩, rfl⟩⟩, trivial⟩, ?_⟩
  replace hd17 := hd17.apn hx23 nb_hx23
  exact ⟨⟨_, agg2 (decide_eq_false (by omega)).symm, by rw [Int.natAbs_natCast]; exact hd17, by rw [Int.natAbs_natCast]; omega⟩, hE⟩

set_option maxHeartbeats 1000000 in
theorem r03_from {w : World} {k : Int} (hk : -9223372036854775808 ≤ k ∧ k ≤ 9223372036854775807) :
    Calls Try.prog 15 #[(.int .i64 (k))] w fun e w' => ∃ v, e = .returned v ∧ (∃ vn vd, v = .agg #[.bool (decide (((k : Int) : Rat).num < 0)), vn, vd] ∧ Sg (gN .u32) (fun b T => w.heap.size ≤ b ∧ T = 52) w' vn (digs ((k : Int) : Rat).num.natAbs) ∧ Sg (gN .u32) (fun b T => w.heap.size ≤ b ∧ T = 52) w' vd (digs ((k : Int) : Rat).den) ∧ (digs ((k : Int) : Rat).num.natAbs).length ≤ 2 ∧ (digs ((k : Int) : Rat).den).length ≤ 3) ∧ Ext w w' := by
  have hE : Below w.heap.size w w := Below.refl _ _
  refine calls_of (n := 7) (rs := [.cell 2 42]) Try.func15 rfl rfl rfl (Nat.le_of_ble_eq_true rfl) ?_
  refine wset fun F0 hF0 => ?_
  refine wseq ?_
  refine wregion ?_
  refine RL.run rfl rfl (by decide) (h_alloc (cs := [(.bool false), (.slice none 0 0), (.slice none 0 0)]) ty42 rfl) ?_
  rintro _ w1 ⟨b2, rfl, hs5, hb4, he3⟩
  have ge_b2 : w.heap.size ≤ b2 := by rw [hs5]; exact hE.size
  replace hE := Below.ext hE hE.size he3
  refine RL.nil ?_
  refine wseq ?_
  refine wregion ?_
  refine RL.val rfl rfl (by decide) (r_move_as (v := (.int .i64 (k))) (hF0 0)) ?_
  refine RL.call rfl rfl (by decide) (r_call (vl := [(.int .i64 (k))]) ent26 rfl) (r02_from (by omega)) ?_
  rintro _ w6 ⟨⟨vr8, rfl, hr9, hl10⟩, he7⟩
  replace hr9 := hr9.mono (D' := fun b T => w.heap.size ≤ b ∧ T = 52) (fun b T h => ⟨Nat.le_trans hE.size h.1, h.2⟩)
  replace hE := Below.ext hE hE.size he7
  refine RL.call rfl rfl (by decide) (r_call (vl := [(.int .i64 (1))]) ent26 rfl) (r02_from (by omega)) ?_
  rintro _ w11 ⟨⟨vr13, rfl, hr14, hl15⟩, he12⟩
  replace hr14 := hr14.mono (D' := fun b T => w.heap.size ≤ b ∧ T = 52) (fun b T h => ⟨Nat.le_trans hE.size h.1, h.2⟩)
  replace hE := Below.ext hE hE.size he12
  replace hr9 := hr9.tr (Sm.ext he12)
  refine RL.call rfl rfl (by decide) (r_call (vl := [(.agg #[(.bool (decide (k < 0))), vr8]), (.agg #[(.bool (decide (1 < 0))), vr13])]) ent25 rfl) (r03_make hr9 (digs_lm _) (by first | omega | simp) (sg_canon _) hr14 (digs_lm _) (by first | omega | simp) (sg_canon _)) ?_
  rintro _ w16 ⟨⟨vn18, vd20, rfl, hn19, hd21, hl22, hl23⟩, he17⟩
  have hlv24 := den_one (Rat.divInt k 1)
  replace hn19 := hn19.mono (D' := fun b T => w.heap.size ≤ b ∧ T = 52) (fun b T h => ⟨Nat.le_trans hE.size h.1, h.2⟩)
  replace hd21 := hd21.mono (D' := fun b T => w.heap.size ≤ b ∧ T = 52) (fun b T h => ⟨Nat.le_trans hE.size h.1, h.2⟩)
  replace hE := Below.ext hE hE.size he17
  have hm29 := Ext.trans he7 (Ext.trans he12 he17)
  replace hb4 := hb4.ext hm29
  refine RL.runs rfl rfl (h_store (vv := (.agg #[(.bool (decide ((Rat.divInt k 1).num < 0))), vn18, vd20])) (cs := [(.bool (decide ((Rat.divInt k 1).num < 0))), vn18, vd20]) (o := 0) ty42 rfl rfl rfl rfl (one_cons rfl (one_cons hn19.one (one_cons hd21.one one_nil))) hb4 (Nat.le_of_ble_eq_true rfl)) ?_
  rintro w25 ⟨hn26, hx27, hz28⟩
  replace hE := Below.exc hE hE.size hx27 ge_b2
  have nb_hx27 := (Nb.of hb4 (nu_cons rfl (nu_cons rfl (nu_cons rfl nu_nil))))
  replace hb4 : Bk w25 b2 42 [(.bool (decide ((Rat.divInt k 1).num < 0))), vn18, vd20] := hn26
  refine RL.nil ?_
  refine wret ?_
  refine ⟨[(.agg #[(.bool (decide ((Rat.divInt k 1).num < 0))), vn18, vd20])], ⟨⟨_, _, [(.bool (decide ((Rat.divInt k 1).num < 0))), vn18, vd20], rfl, ⟨_, Try.underlying42⟩, hb4.cells rfl, .inl ⟨ag42, ⟨_, _, ty42⟩, rfl⟩⟩, trivial⟩, ?_⟩
  have hq : (Rat.divInt k 1) = ((k : Int) : Rat) := int_law k
  rw [← hq]
  replace hn19 := hn19.apn hx27 nb_hx27
  replace hd21 := hd21.apn hx27 nb_hx27
  exact ⟨⟨_, _, rfl, hn19, hd21, by omega, by omega⟩, hE⟩

set_option maxHeartbeats 1000000 in
theorem r03_sign {w : World} {sx : Bool} {Dx Ex : Nat → TypeId → Prop} {vx ux : Value} {x dx : List Nat} (hx : Sg (gN .u32) Dx w vx x) (lmx : Lm x) (lnx : x.length ≤ 17179869184) (hdx : Sg (gN .u32) Ex w ux dx) (lmdx : Lm dx) (lndx : dx.length ≤ 17179869184) {qx : Rat} (ex : ratOf sx (val x) (val dx) = qx) :
    Calls Try.prog 33 #[(.agg #[(.bool (sx)), vx, ux])] w fun e w' => ∃ v, e = .returned v ∧ v = .int .i64 (Int.sign qx.num) ∧ Ext w w' := by
  have hE : Below w.heap.size w w := Below.refl _ _
  have hlqx := rl_of lmx lmdx ex
  have hdqx := den_one qx
  refine calls_of (n := 7) (rs := [.tmp 2]) Try.func33 rfl rfl rfl (Nat.le_of_ble_eq_true rfl) ?_
  refine wset fun F0 hF0 => ?_
  refine wseq ?_
  refine wregion ?_
  refine RL.run rfl rfl (by decide) (h_box (vv := (.agg #[(.bool (sx)), vx, ux])) (cs := [(.bool (sx)), vx, ux]) (hF0 0) rfl) ?_
  rintro _ w1 ⟨b2, rfl, hs5, hb4, he3⟩
  have ge_b2 : w.heap.size ≤ b2 := by rw [hs5]; exact hE.size
  replace hE := Below.ext hE hE.size he3
  refine RL.val rfl rfl (by decide) (r_assign_as (v := (.int .i64 (0))) rfl) ?_
  refine RL.nil ?_
  refine wseq ?_
  refine wregion ?_
  have hc6 := hb4.cells (o := 0) (cs := [(.bool (sx)), vx, ux]) rfl
  refine RL.val rfl rfl (by decide) (r_loada (o := 0) (cs := [(.bool (sx)), vx, ux]) Try.underlying42 ag42 ty42 rfl hc6) ?_
  replace hx := hx.tr (Sm.ext he3)
  replace hdx := hdx.tr (Sm.ext he3)
  refine RL.call rfl rfl (by decide) (r_call (vl := [(.agg #[(.bool (sx)), vx, ux])]) ent38 rfl) (r03_norm hx (by assumption) (by first | omega | simp) hdx (by assumption) (by first | omega | simp) (show ratOf sx (val x) (val dx) = qx from ex)) ?_
  rintro _ w7 ⟨⟨vn9, vd11, rfl, hn10, hd12, hl13, hl14⟩, he8⟩
  have hlv15 := den_one qx
  replace hn10 := hn10.mono (D' := fun b T => w.heap.size ≤ b ∧ T = 52) (fun b T h => ⟨Nat.le_trans hE.size h.1, h.2⟩)
  replace hd12 := hd12.mono (D' := fun b T => w.heap.size ≤ b ∧ T = 52) (fun b T h => ⟨Nat.le_trans hE.size h.1, h.2⟩)
  replace hE := Below.ext hE hE.size he8
  refine RL.val rfl rfl (by decide) (r_fielda Try.underlying42 rfl Try.underlying40 ag40 ty40 rfl) ?_
  refine RL.call rfl rfl (by decide) (r_call (vl := [(.agg #[(.bool (decide (qx.num < 0))), vn9])]) ent40 rfl) (r02_sign hn10 (digs_lm _) (by first | omega | simp) (sg_canon _)) ?_
  rintro _ w16 ⟨rfl, he17⟩
  replace hE := Below.ext hE hE.size he17
  refine RL.val rfl rfl (by decide) (r_assign_as (v := (.int .i64 (Int.sign qx.num))) rfl) ?_
  refine RL.nil ?_
  refine wret ?_
  refine ⟨[(.int .i64 (Int.sign qx.num))], ⟨rfl, trivial⟩, ?_⟩
  exact ⟨rfl, hE⟩

set_option maxHeartbeats 1000000 in
theorem r03_neg {w : World} {sx : Bool} {Dx Ex : Nat → TypeId → Prop} {vx ux : Value} {x dx : List Nat} (hx : Sg (gN .u32) Dx w vx x) (lmx : Lm x) (lnx : x.length ≤ 17179869184) (hdx : Sg (gN .u32) Ex w ux dx) (lmdx : Lm dx) (lndx : dx.length ≤ 17179869184) {qx : Rat} (ex : ratOf sx (val x) (val dx) = qx) :
    Calls Try.prog 48 #[(.agg #[(.bool (sx)), vx, ux])] w fun e w' => ∃ v, e = .returned v ∧ (∃ vn vd, v = .agg #[.bool (decide ((-qx).num < 0)), vn, vd] ∧ Sg (gN .u32) (fun b T => w.heap.size ≤ b ∧ T = 52) w' vn (digs (-qx).num.natAbs) ∧ Sg (gN .u32) (fun b T => w.heap.size ≤ b ∧ T = 52) w' vd (digs (-qx).den) ∧ (digs (-qx).num.natAbs).length ≤ x.length ∧ (digs (-qx).den).length ≤ dx.length + 2) ∧ Ext w w' := by
  have hE : Below w.heap.size w w := Below.refl _ _
  have hlqx := rl_of lmx lmdx ex
  have hdqx := den_one qx
  refine calls_of (n := 10) (rs := [.cell 2 42]) Try.func48 rfl rfl rfl (Nat.le_of_ble_eq_true rfl) ?_
  refine wset fun F0 hF0 => ?_
  refine wseq ?_
  refine wregion ?_
  refine RL.run rfl rfl (by decide) (h_box (vv := (.agg #[(.bool (sx)), vx, ux])) (cs := [(.bool (sx)), vx, ux]) (hF0 0) rfl) ?_
  rintro _ w1 ⟨b2, rfl, hs5, hb4, he3⟩
  have ge_b2 : w.heap.size ≤ b2 := by rw [hs5]; exact hE.size
  replace hE := Below.ext hE hE.size he3
  refine RL.run rfl rfl (by decide) (h_alloc (cs := [(.bool false), (.slice none 0 0), (.slice none 0 0)]) ty42 rfl) ?_
  rintro _ w6 ⟨b7, rfl, hs10, hb9, he8⟩
  have lt_b2_b7 := Nat.lt_of_lt_of_eq hb4.lt hs10.symm
  have ge_b7 : w.heap.size ≤ b7 := by rw [hs10]; exact hE.size
  replace hE := Below.ext hE hE.size he8
  refine RL.nil ?_
  refine wseq ?_
  refine wdraw mixed fun w11 he12 => ?_
  replace hE := Below.ext hE hE.size he12
  replace hb4 := hb4.ext (Ext.trans he8 he12)
  have hc13 := hb4.cells (o := 0) (cs := [(.bool (sx)), vx, ux]) rfl
  refine RA.rd 0 rfl (by kernel_rfl) rfl rfl rfl (by decide) (Ext.refl _) (fun u hu => r_loada (o := 0) (cs := [(.bool (sx)), vx, ux]) Try.underlying42 ag42 ty42 rfl (fun j v hj => cell_ext hu (hc13 j v hj))) ?_
  have hc14 := hb4.cells (o := 0) (cs := [(.bool (sx)), vx, ux]) rfl
  refine RA.rd 4 rfl (by kernel_rfl) rfl rfl rfl (by decide) (Ext.refl _) (fun u hu => r_loada (o := 0) (cs := [(.bool (sx)), vx, ux]) Try.underlying42 ag42 ty42 rfl (fun j v hj => cell_ext hu (hc14 j v hj))) ?_
  refine RA.all [1] (by kernel_rfl) rfl ?_
  have hm23 := Ext.trans he3 (Ext.trans he8 he12)
  replace hx := hx.tr (Sm.ext hm23)
  replace hdx := hdx.tr (Sm.ext hm23)
  refine RS.call rfl rfl rfl (by decide) (r_call (vl := [(.agg #[(.bool (sx)), vx, ux])]) ent38 rfl) (r03_norm hx (by assumption) (by first | omega | simp) hdx (by assumption) (by first | omega | simp) (show ratOf sx (val x) (val dx) = qx from ex)) ?_ RS.nil
  rintro _ w15 ⟨⟨vn17, vd19, rfl, hn18, hd20, hl21, hl22⟩, he16⟩
  refine ⟨.inr (.inr he16), RA.more (S' := fun u => Ext _ u) (fun u hu => Ext.trans he16 hu) ?_⟩
  have hlv24 := den_one qx
  replace hn18 := hn18.mono (D' := fun b T => w.heap.size ≤ b ∧ T = 52) (fun b T h => ⟨Nat.le_trans hE.size h.1, h.2⟩)
  replace hd20 := hd20.mono (D' := fun b T => w.heap.size ≤ b ∧ T = 52) (fun b T h => ⟨Nat.le_trans hE.size h.1, h.2⟩)
  replace hE := Below.ext hE hE.size he16
  refine RA.take 2 rfl (by kernel_rfl) rfl rfl (by decide) (fun _ => r_fielda Try.underlying42 rfl Try.underlying40 ag40 ty40 rfl) ?_
  refine RA.all [3] (by kernel_rfl) rfl ?_
  refine RS.call rfl rfl rfl (by decide) (r_call (vl := [(.agg #[(.bool (decide (qx.num < 0))), vn17])]) ent45 rfl) (r02_neg hn18 (digs_lm _) (by first | omega | simp) (sg_canon _)) ?_ RS.nil
  rintro _ w25 ⟨⟨vr27, rfl, hr28, hl29⟩, he26⟩
  refine ⟨.inr (.inr he26), RA.more (S' := fun u => Ext _ u) (fun u hu => Ext.trans he26 hu) ?_⟩
  replace hr28 := hr28.mono (D' := fun b T => w.heap.size ≤ b ∧ T = 52) (fun b T h => ⟨Nat.le_trans hE.size h.1, h.2⟩)
  replace hE := Below.ext hE hE.size he26
  refine RA.all [5] (by kernel_rfl) rfl ?_
  replace hx := hx.tr (Sm.ext (Ext.trans he16 he26))
  replace hdx := hdx.tr (Sm.ext (Ext.trans he16 he26))
  refine RS.call rfl rfl rfl (by decide) (r_call (vl := [(.agg #[(.bool (sx)), vx, ux])]) ent39 rfl) (r03_den hx (by assumption) (by first | omega | simp) hdx (by assumption) (by first | omega | simp) (show ratOf sx (val x) (val dx) = qx from ex)) ?_ RS.nil
  rintro _ w30 ⟨⟨vr32, rfl, hr33, hl34⟩, he31⟩
  refine ⟨.inr (.inr he31), RA.more (S' := fun u => Ext _ u) (fun u hu => Ext.trans he31 hu) ?_⟩
  replace hr33 := hr33.mono (D' := fun b T => w.heap.size ≤ b ∧ T = 52) (fun b T h => ⟨Nat.le_trans hE.size h.1, h.2⟩)
  replace hE := Below.ext hE hE.size he31
  refine RA.all [6] (by kernel_rfl) rfl ?_
  replace hr28 := hr28.tr (Sm.ext he31)
  refine RS.call rfl rfl rfl (by decide) (r_call (vl := [(.agg #[(.bool (decide ((-qx.num) < 0))), vr27]), (.agg #[(.bool (decide (((qx.den : Nat) : Int) < 0))), vr32])]) ent25 rfl) (r03_make hr28 (digs_lm _) (by first | omega | simp) (sg_canon _) hr33 (digs_lm _) (by first | omega | simp) (sg_canon _)) ?_ RS.nil
  rintro _ w35 ⟨⟨vn37, vd39, rfl, hn38, hd40, hl41, hl42⟩, he36⟩
  refine ⟨.inr (.inr he36), RA.more (S' := fun u => Ext _ u) (fun u hu => Ext.trans he36 hu) ?_⟩
  have hlv43 := den_one (Rat.divInt (-qx.num) ((qx.den : Nat) : Int))
  replace hn38 := hn38.mono (D' := fun b T => w.heap.size ≤ b ∧ T = 52) (fun b T h => ⟨Nat.le_trans hE.size h.1, h.2⟩)
  replace hd40 := hd40.mono (D' := fun b T => w.heap.size ≤ b ∧ T = 52) (fun b T h => ⟨Nat.le_trans hE.size h.1, h.2⟩)
  replace hE := Below.ext hE hE.size he36
  refine RA.all [7] (by kernel_rfl) rfl ?_
  have hm48 := Ext.trans he12 (Ext.trans he16 (Ext.trans he26 (Ext.trans he31 he36)))
  replace hb9 := hb9.ext hm48
  refine RS.runs rfl rfl rfl (h_store (vv := (.agg #[(.bool (decide ((Rat.divInt (-qx.num) ((qx.den : Nat) : Int)).num < 0))), vn37, vd39])) (cs := [(.bool (decide ((Rat.divInt (-qx.num) ((qx.den : Nat) : Int)).num < 0))), vn37, vd39]) (o := 0) ty42 rfl rfl rfl rfl (one_cons rfl (one_cons hn38.one (one_cons hd40.one one_nil))) hb9 (Nat.le_of_ble_eq_true rfl)) ?_ RS.nil
  rintro w44 ⟨hn45, hx46, hz47⟩
  refine ⟨.inr (.inl (by kernel_rfl)), ?_⟩
  replace hE := Below.exc hE hE.size hx46 ge_b7
  have nb_hx46 := (Nb.of hb9 (nu_cons rfl (nu_cons rfl (nu_cons rfl nu_nil))))
  replace hb9 : Bk w44 b7 42 [(.bool (decide ((Rat.divInt (-qx.num) ((qx.den : Nat) : Int)).num < 0))), vn37, vd39] := hn45
  refine RA.done (by kernel_rfl) ?_
  refine wret ?_
  refine ⟨[(.agg #[(.bool (decide ((Rat.divInt (-qx.num) ((qx.den : Nat) : Int)).num < 0))), vn37, vd39])], ⟨⟨_, _, [(.bool (decide ((Rat.divInt (-qx.num) ((qx.den : Nat) : Int)).num < 0))), vn37, vd39], rfl, ⟨_, Try.underlying42⟩, hb9.cells rfl, .inl ⟨ag42, ⟨_, _, ty42⟩, rfl⟩⟩, trivial⟩, ?_⟩
  have hq : (Rat.divInt (-qx.num) ((qx.den : Nat) : Int)) = (-qx) := rneg_law qx
  rw [← hq]
  replace hn38 := hn38.apn hx46 nb_hx46
  replace hd40 := hd40.apn hx46 nb_hx46
  exact ⟨⟨_, _, rfl, hn38, hd40, by omega, by omega⟩, hE⟩

end Go.Proofs.Ytppgppnkhpjlpaa
