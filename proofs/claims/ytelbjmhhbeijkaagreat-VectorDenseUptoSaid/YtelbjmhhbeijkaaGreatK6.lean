/- VectorDense, second form: for arguments of bulk at most 1048576 the law returns true and the arguments read as before; no other condition. Part 6 of 8: Ve Vf Xa Vgs Xb Xc Nm Ew Xd Xe Xf Vgt Ta Tb Ya Yb Ri Tc. -/
import Derived.Test.YtelbjmhhbeijkaaGreatK5
set_option linter.unusedVariables false
set_option linter.unusedSimpArgs false
namespace Go.Proofs.YtelbjmhhbeijkaaGreat
open Go.Vg Go.RowKit _root_.Go.Proofs.Tryz
set_option linter.unusedVariables false
open Go.Vm
set_option maxHeartbeats 4000000 in
theorem v_dot1 {w : World} {sx : Bool} {Dx Ex : Nat → TypeId → Prop} {vx ux : Value} {x dx : List Nat} (hx : Sg (gN .u32) Dx w vx x) (lmx : Lm x) (lnx : x.length ≤ 4294967296) (hdx : Sg (gN .u32) Ex w ux dx) (lmdx : Lm dx) (lndx : dx.length ≤ 4294967296) {qx : Rat} (ex : ratOf sx (val x) (val dx) = qx) {sy : Bool} {Dy Ey : Nat → TypeId → Prop} {vy uy : Value} {y dy : List Nat} (hy : Sg (gN .u32) Dy w vy y) (lmy : Lm y) (lny : y.length ≤ 4294967296) (hdy : Sg (gN .u32) Ey w uy dy) (lmdy : Lm dy) (lndy : dy.length ≤ 4294967296) {qy : Rat} (ey : ratOf sy (val y) (val dy) = qy) {bs : Nat} {v0 u0 : Value} {M : Nat} {q0 : Rat} (hbs : Bk w bs 44 [.bool (decide (q0.num < 0)), v0, u0]) (h0 : Sg (gN .u32) (fun _ T => T = 89) w v0 (digs q0.num.natAbs)) (hd0 : Sg (gN .u32) (fun _ T => T = 89) w u0 (digs q0.den)) (ln0 : (digs q0.num.natAbs).length ≤ M) (lnd0 : (digs q0.den).length ≤ M) (hM : M ≤ 8589934592) {L : Nat} (hLx : x.length ≤ L) (hLdx : dx.length ≤ L) (hLy : y.length ≤ L) (hLdy : dy.length ≤ L) :
    Calls Tryz.prog 45 #[(.agg #[(.bool sx), vx, ux]), (.agg #[(.bool sy), vy, uy]), (.pointer (some ⟨bs, 0, none⟩))] w fun e w' => ∃ v, e = .returned v ∧ v = .agg #[.bool false, .slice none 0 0, .slice none 0 0] ∧ (∃ vn vd, Bk w' bs 44 [.bool (decide ((q0 + qx * qy).num < 0)), vn, vd] ∧ Sg (gN .u32) (fun _ T => T = 89) w' vn (digs (q0 + qx * qy).num.natAbs) ∧ Sg (gN .u32) (fun _ T => T = 89) w' vd (digs (q0 + qx * qy).den) ∧ (digs (q0 + qx * qy).num.natAbs).length ≤ M + (2 * L + 6) ∧ (digs (q0 + qx * qy).den).length ≤ M + (2 * L + 6)) ∧ Exc bs w w' := by
 have hX : Exc bs w w := Exc.of_ext (Ext.refl _)
 have hbsl := hbs.lt
 have hlqx := rl_of lmx lmdx ex
 have hdqx := den_one qx
 have hlqy := rl_of lmy lmdy ey
 have hdqy := den_one qy
 refine calls_of (n := 20) (rs := [.cell 5 44]) func45 rfl rfl rfl bL ?_
 refine wset fun F0 hF0 => ?_
 refine wsr ?_
 refine rU (h_bxA (cs := [(.bool sx), vx, ux]) (hF0 0) rfl) ?_
 rintro _ w1 ⟨b2, rfl, hs5, hb4, he3⟩
 have he3z := he3.size
 replace hx := hx.tr (Sm.ext he3)
 replace hdx := hdx.tr (Sm.ext he3)
 replace hy := hy.tr (Sm.ext he3)
 replace hdy := hdy.tr (Sm.ext he3)
 replace hbs := hbs.ext he3
 replace h0 := h0.tr (Sm.ext he3)
 replace hd0 := hd0.tr (Sm.ext he3)
 replace hX := hX.trans (Exc.of_ext he3)
 have hb4l := hb4.lt
 refine rU (h_bxA (cs := [(.bool sy), vy, uy]) (hF0 1) rfl) ?_
 rintro _ w6 ⟨b7, rfl, hs10, hb9, he8⟩
 have he8z := he8.size
 replace hx := hx.tr (Sm.ext he8)
 replace hdx := hdx.tr (Sm.ext he8)
 replace hy := hy.tr (Sm.ext he8)
 replace hdy := hdy.tr (Sm.ext he8)
 replace hbs := hbs.ext he8
 replace h0 := h0.tr (Sm.ext he8)
 replace hd0 := hd0.tr (Sm.ext he8)
 replace hX := hX.trans (Exc.of_ext he8)
 replace hb4 := hb4.ext he8
 have hb9l := hb9.lt
 refine rU (h_alloc (cs := [(.bool false), (.slice none 0 0), (.slice none 0 0)]) ty44 rfl) ?_
 rintro _ w11 ⟨b12, rfl, hs15, hb14, he13⟩
 have he13z := he13.size
 replace hx := hx.tr (Sm.ext he13)
 replace hdx := hdx.tr (Sm.ext he13)
 replace hy := hy.tr (Sm.ext he13)
 replace hdy := hdy.tr (Sm.ext he13)
 replace hbs := hbs.ext he13
 replace h0 := h0.tr (Sm.ext he13)
 replace hd0 := hd0.tr (Sm.ext he13)
 replace hX := hX.trans (Exc.of_ext he13)
 replace hb4 := hb4.ext he13
 replace hb9 := hb9.ext he13
 have hb14l := hb14.lt
 refine RL.nil (wseq (wsr ?_))
 have hc16 := hb4.cells (o := 0) (cs := [(.bool sx), vx, ux]) rfl
 refine rV (r_loada (o := 0) (cs := [(.bool sx), vx, ux]) uT44 ag44 ty44 rfl hc16) ?_
 refine RL.call rfl rfl dC (r_call (vl := [(.agg #[(.bool sx), vx, ux])]) ent37 rfl) (q_sign hx (by assumption) oS hdx (by assumption) oS (show ratOf sx (val x) (val dx) = qx from ex)) ?_
 rintro _ w17 ⟨rfl, he18⟩
 have he18z := he18.size
 replace hx := hx.tr (Sm.ext he18)
 replace hdx := hdx.tr (Sm.ext he18)
 replace hy := hy.tr (Sm.ext he18)
 replace hdy := hdy.tr (Sm.ext he18)
 replace hbs := hbs.ext he18
 replace h0 := h0.tr (Sm.ext he18)
 replace hd0 := hd0.tr (Sm.ext he18)
 replace hX := hX.trans (Exc.of_ext he18)
 replace hb4 := hb4.ext he18
 replace hb9 := hb9.ext he18
 replace hb14 := hb14.ext he18
 refine rV (r_neq (k := .i64) (a := Int.sign qx.num) (b := 0) rfl rfl) (mV (v := (bd ((Int.sign qx.num) ≠ 0))) rfl ?_)
 rcases bD ((Int.sign qx.num) ≠ 0) with ⟨hb19, hb19p⟩ | ⟨hb19, hb19p⟩
 ·have hc20 := hb9.cells (o := 0) (cs := [(.bool sy), vy, uy]) rfl
  refine RL.gval rfl rfl (bool_eq hb19) rfl dC (r_loada (o := 0) (cs := [(.bool sy), vy, uy]) uT44 ag44 ty44 rfl hc20) ?_
  refine RL.gcall rfl rfl (bool_eq hb19) rfl dC (r_call (vl := [(.agg #[(.bool sy), vy, uy])]) ent37 rfl) (q_sign hy (by assumption) oS hdy (by assumption) oS (show ratOf sy (val y) (val dy) = qy from ey)) ?_
  rintro _ w21 ⟨rfl, he22⟩
  have he22z := he22.size
  replace hx := hx.tr (Sm.ext he22)
  replace hdx := hdx.tr (Sm.ext he22)
  replace hy := hy.tr (Sm.ext he22)
  replace hdy := hdy.tr (Sm.ext he22)
  replace hbs := hbs.ext he22
  replace h0 := h0.tr (Sm.ext he22)
  replace hd0 := hd0.tr (Sm.ext he22)
  replace hX := hX.trans (Exc.of_ext he22)
  replace hb4 := hb4.ext he22
  replace hb9 := hb9.ext he22
  replace hb14 := hb14.ext he22
  refine RL.gval rfl rfl (bool_eq hb19) rfl dC (r_neq (k := .i64) (a := Int.sign qy.num) (b := 0) rfl rfl) ?_
  refine rV (r_pick_t (v := (bd ((Int.sign qy.num) ≠ 0))) (bool_eq hb19) rfl) (RL.nil ?_)
  refine wcD (p := (Int.sign qy.num) ≠ 0) rfl (fun hb23 hb23p => ?_) (fun hb23 hb23p => ?_)
  ·refine wdraw mixed fun w24 he25 => ?_
   have he25z := he25.size
   replace hx := hx.tr (Sm.ext he25)
   replace hdx := hdx.tr (Sm.ext he25)
   replace hy := hy.tr (Sm.ext he25)
   replace hdy := hdy.tr (Sm.ext he25)
   replace hbs := hbs.ext he25
   replace h0 := h0.tr (Sm.ext he25)
   replace hd0 := hd0.tr (Sm.ext he25)
   replace hX := hX.trans (Exc.of_ext he25)
   replace hb4 := hb4.ext he25
   replace hb9 := hb9.ext he25
   replace hb14 := hb14.ext he25
   have hc26 := hbs.cells (o := 0) (cs := [(bd (q0.num < 0)), v0, u0]) rfl
   refine aR 0 rfl (fun u hu => r_loada (o := 0) (cs := [(bd (q0.num < 0)), v0, u0]) uT44 ag44 ty44 (hF0 2) (fun j v hj => cell_ext hu (hc26 j v hj))) ?_
   have hc27 := hb4.cells (o := 0) (cs := [(.bool sx), vx, ux]) rfl
   refine aR 1 rfl (fun u hu => r_loada (o := 0) (cs := [(.bool sx), vx, ux]) uT44 ag44 ty44 rfl (fun j v hj => cell_ext hu (hc27 j v hj))) ?_
   have hc28 := hb9.cells (o := 0) (cs := [(.bool sy), vy, uy]) rfl
   refine aR 2 rfl (fun u hu => r_loada (o := 0) (cs := [(.bool sy), vy, uy]) uT44 ag44 ty44 rfl (fun j v hj => cell_ext hu (hc28 j v hj))) ?_
   refine RA.all [3] kR rfl ?_
   refine RS.call rfl rfl rfl dC (r_call (vl := [(.agg #[(.bool sx), vx, ux]), (.agg #[(.bool sy), vy, uy])]) ent47 rfl) (q_mul hx (by assumption) oS hdx (by assumption) oS (show ratOf sx (val x) (val dx) = qx from ex) hy (by assumption) oS hdy (by assumption) oS (show ratOf sy (val y) (val dy) = qy from ey)) ?_ RS.nil
   rintro _ w29 ⟨⟨vn31, vd33, rfl, hn32, hd34, hl35, hl36⟩, he30⟩
   refine rm he30 ?_
   have hlv37 := den_one (qx * qy)
   have he30z := he30.size
   replace hbs := hbs.ext he30
   replace h0 := h0.tr (Sm.ext he30)
   replace hd0 := hd0.tr (Sm.ext he30)
   replace hX := hX.trans (Exc.of_ext he30)
   replace hb4 := hb4.ext he30
   replace hb9 := hb9.ext he30
   replace hb14 := hb14.ext he30
   refine RA.all [4] kR rfl ?_
   refine RS.call rfl rfl rfl dC (r_call (vl := [(.agg #[(bd (q0.num < 0)), v0, u0]), (.agg #[(bd ((qx * qy).num < 0)), vn31, vd33])]) ent46 rfl) (q_add h0 (digs_lm _) oS hd0 (digs_lm _) oS (ratOf_canon _) hn32 (digs_lm _) oS hd34 (digs_lm _) oS (ratOf_canon _)) ?_ RS.nil
   rintro _ w38 ⟨⟨vn40, vd42, rfl, hn41, hd43, hl44, hl45⟩, he39⟩
   refine rm he39 ?_
   have hlv46 := den_one (q0 + (qx * qy))
   have he39z := he39.size
   replace hbs := hbs.ext he39
   replace h0 := h0.tr (Sm.ext he39)
   replace hd0 := hd0.tr (Sm.ext he39)
   replace hX := hX.trans (Exc.of_ext he39)
   replace hb4 := hb4.ext he39
   replace hb9 := hb9.ext he39
   replace hb14 := hb14.ext he39
   refine RA.all [5] kR rfl ?_
   refine RS.runs rfl rfl rfl (h_stA (cs := [(bd ((q0 + (qx * qy)).num < 0)), vn40, vd42]) (o := 0) ty44 (hF0 2) rfl rfl rfl (one_cons rfl (one_cons hn41.one (one_cons hd43.one one_nil))) hbs bL) ?_ RS.nil
   rintro w47 ⟨hn48, hx49, hz50⟩
   refine ⟨.inr (.inl kR), ?_⟩
   have hx49z := hx49.size
   replace h0 := h0.ap hx49 hbs (nu_cons rfl (nu_cons h0.nu (nu_cons hd0.nu nu_nil)))
   replace hd0 := hd0.ap hx49 hbs (nu_cons rfl (nu_cons h0.nu (nu_cons hd0.nu nu_nil)))
   replace hX := hX.trans hx49
   replace hb4 := hb4.exc hx49 oM
   replace hb9 := hb9.exc hx49 oM
   replace hb14 := hb14.exc hx49 oM
   replace hn41 := hn41.tr (hbs.sm hx49 (by intro hd; first | omega | (have hd2 := hd.1; omega) | exact absurd hd.2 dC | exact absurd hd dC))
   replace hd43 := hd43.tr (hbs.sm hx49 (by intro hd; first | omega | (have hd2 := hd.1; omega) | exact absurd hd.2 dC | exact absurd hd dC))
   replace hbs : Bk w47 bs 44 [(bd ((q0 + (qx * qy)).num < 0)), vn40, vd42] := hn48
   refine RA.done kR ?_
   refine wsr (rV (r_build (vl := []) (cs := [(.bool false), (.slice none 0 0), (.slice none 0 0)]) uT44 ty44 rfl (pl44 uT44) rfl) ?_)
   refine RL.runs rfl rfl (h_stA (cs := [(.bool false), (.slice none 0 0), (.slice none 0 0)]) (o := 0) ty44 rfl rfl rfl rfl (one_cons rfl (one_cons rfl (one_cons rfl one_nil))) hb14 bL) ?_
   rintro w51 ⟨hn52, hx53, hz54⟩
   have hx53z := hx53.size
   replace hbs := hbs.exc hx53 oM
   replace h0 := h0.ap hx53 hb14 (nu_cons rfl (nu_cons rfl (nu_cons rfl nu_nil)))
   replace hd0 := hd0.ap hx53 hb14 (nu_cons rfl (nu_cons rfl (nu_cons rfl nu_nil)))
   replace hX := Exc.own hX hx53 oM
   replace hb4 := hb4.exc hx53 oM
   replace hb9 := hb9.exc hx53 oM
   replace hn41 := hn41.tr (hb14.sm hx53 (by intro hd; first | omega | (have hd2 := hd.1; omega) | exact absurd hd.2 dC | exact absurd hd dC))
   replace hd43 := hd43.tr (hb14.sm hx53 (by intro hd; first | omega | (have hd2 := hd.1; omega) | exact absurd hd.2 dC | exact absurd hd dC))
   replace hb14 : Bk w51 b12 44 [(.bool false), (.slice none 0 0), (.slice none 0 0)] := hn52
   refine RL.nil ?_
   refine wret ?_
   refine ⟨[(.agg #[(.bool false), (.slice none 0 0), (.slice none 0 0)])], ⟨⟨_, _, [(.bool false), (.slice none 0 0), (.slice none 0 0)], rfl, ⟨_, uT44⟩, hb14.cells rfl, .inl ⟨ag44, ⟨_, _, ty44⟩, rfl⟩⟩, trivial⟩, ?_⟩
   have hlr := radd_len q0 (qx * qy)
   have hlm := rmul_len qx qy
   exact ⟨rfl, ⟨_, _, hbs, hn41.mono (fun _ _ h => by first | exact h | exact h.2), hd43.mono (fun _ _ h => by first | exact h | exact h.2), by omega, by omega⟩, hX⟩
  have hy0 : qy = 0 := (sign_eq qy).1 (by simpa using hb23p)
  have hpq : qx * qy = 0 := by first | (rw [hx0, Rat.zero_mul]; done) | (rw [hy0, Rat.mul_zero]; done)
  refine wskip ?_
  refine wsr (rV (r_build (vl := []) (cs := [(.bool false), (.slice none 0 0), (.slice none 0 0)]) uT44 ty44 rfl (pl44 uT44) rfl) ?_)
  refine RL.runs rfl rfl (h_stA (cs := [(.bool false), (.slice none 0 0), (.slice none 0 0)]) (o := 0) ty44 rfl rfl rfl rfl (one_cons rfl (one_cons rfl (one_cons rfl one_nil))) hb14 bL) ?_
  rintro w55 ⟨hn56, hx57, hz58⟩
  have hx57z := hx57.size
  replace hbs := hbs.exc hx57 oM
  replace h0 := h0.ap hx57 hb14 (nu_cons rfl (nu_cons rfl (nu_cons rfl nu_nil)))
  replace hd0 := hd0.ap hx57 hb14 (nu_cons rfl (nu_cons rfl (nu_cons rfl nu_nil)))
  replace hX := Exc.own hX hx57 oM
  replace hb4 := hb4.exc hx57 oM
  replace hb9 := hb9.exc hx57 oM
  replace hb14 : Bk w55 b12 44 [(.bool false), (.slice none 0 0), (.slice none 0 0)] := hn56
  refine RL.nil ?_
  refine wret ?_
  refine ⟨[(.agg #[(.bool false), (.slice none 0 0), (.slice none 0 0)])], ⟨⟨_, _, [(.bool false), (.slice none 0 0), (.slice none 0 0)], rfl, ⟨_, uT44⟩, hb14.cells rfl, .inl ⟨ag44, ⟨_, _, ty44⟩, rfl⟩⟩, trivial⟩, ?_⟩
  rw [hpq, Rat.add_zero]
  exact ⟨rfl, ⟨_, _, hbs, h0.mono (fun _ _ h => by first | exact h | exact h.2), hd0.mono (fun _ _ h => by first | exact h | exact h.2), by omega, by omega⟩, hX⟩
 have hx0 : qx = 0 := (sign_eq qx).1 (by simpa using hb19p)
 have hpq : qx * qy = 0 := by first | (rw [hx0, Rat.zero_mul]; done) | (rw [hy0, Rat.mul_zero]; done)
 refine RL.gno rfl rfl (bool_eq hb19) rfl dC ?_
 refine RL.gno rfl rfl (bool_eq hb19) rfl dC ?_
 refine RL.gno rfl rfl (bool_eq hb19) rfl dC ?_
 refine rV (r_pick_f (v := (.bool false)) (bool_eq hb19) rfl) (RL.nil ?_)
 refine wcond_f rfl ?_
 refine wskip ?_
 refine wsr (rV (r_build (vl := []) (cs := [(.bool false), (.slice none 0 0), (.slice none 0 0)]) uT44 ty44 rfl (pl44 uT44) rfl) ?_)
 refine RL.runs rfl rfl (h_stA (cs := [(.bool false), (.slice none 0 0), (.slice none 0 0)]) (o := 0) ty44 rfl rfl rfl rfl (one_cons rfl (one_cons rfl (one_cons rfl one_nil))) hb14 bL) ?_
 rintro w59 ⟨hn60, hx61, hz62⟩
 have hx61z := hx61.size
 replace hbs := hbs.exc hx61 oM
 replace h0 := h0.ap hx61 hb14 (nu_cons rfl (nu_cons rfl (nu_cons rfl nu_nil)))
 replace hd0 := hd0.ap hx61 hb14 (nu_cons rfl (nu_cons rfl (nu_cons rfl nu_nil)))
 replace hX := Exc.own hX hx61 oM
 replace hb4 := hb4.exc hx61 oM
 replace hb9 := hb9.exc hx61 oM
 replace hb14 : Bk w59 b12 44 [(.bool false), (.slice none 0 0), (.slice none 0 0)] := hn60
 refine RL.nil ?_
 refine wret ?_
 refine ⟨[(.agg #[(.bool false), (.slice none 0 0), (.slice none 0 0)])], ⟨⟨_, _, [(.bool false), (.slice none 0 0), (.slice none 0 0)], rfl, ⟨_, uT44⟩, hb14.cells rfl, .inl ⟨ag44, ⟨_, _, ty44⟩, rfl⟩⟩, trivial⟩, ?_⟩
 rw [hpq, Rat.add_zero]
 exact ⟨rfl, ⟨_, _, hbs, h0.mono (fun _ _ h => by first | exact h | exact h.2), hd0.mono (fun _ _ h => by first | exact h | exact h.2), by omega, by omega⟩, hX⟩
def JD (b5 L : Nat) : List (Rat × Rat) → World → Prop := fun ps w => ∃ v u, Bk w b5 44 [.bool (decide ((sumP ps).num < 0)), v, u] ∧ Rk (2 + ps.length * (2 * L + 6)) (fun _ T => T = 89) w (decide ((sumP ps).num < 0), v, u) (sumP ps)
theorem jd_ok {b5 L B : Nat} (hb : b5 < B) : JOk 89 B (JD b5 L) :=
  ⟨fun _ _ _ h hs => by obtain ⟨v, u, h1, h2⟩ := h; exact ⟨v, u, hs _ _ _ _ h1 (.inl hb), h2.tr (fun b cs T fz hh hd => hs b cs T fz hh (.inr hd))⟩, fun _ _ _ _ h e hn hB => by obtain ⟨v, u, h1, h2⟩ := h; exact ⟨v, u, h1.exc e oM, h2.apn e hn⟩⟩
theorem op_dot {K L b5 : Nat} (hL : L ≤ 4294967296) (hK : 2 + K * (2 * L + 6) ≤ 8589934592) : OpOk Tryz.prog 45 [.pointer (some ⟨b5, 0, none⟩)] (some b5) K L 0 (fun _ _ => 0) (JD b5 L) := fun hps hJ h1 m1 l1 g1 n1 k1 e1 h2 m2 l2 g2 n2 k2 e2 => by
  obtain ⟨v, u, hb, _, r1, r2, r3, r4⟩ := hJ
  have hb1 := Nat.mul_le_mul_right (2 * L + 6) (Nat.le_of_lt hps)
  refine (v_dot1 h1 m1 oM g1 n1 oM e1 h2 m2 oM g2 n2 oM e2 hb r1 r2 r3 r4 oM l1 k1 l2 k2).mono ?_
  rintro _ _ ⟨vv, he, hv, ⟨vn, vd, a1, a2, a3, a4, a5⟩, hX⟩
  refine ⟨vv, he, ⟨false, _, _, [], [], hv, Sg.nil, Lm.nil, Nat.zero_le _, Sg.nil, Lm.nil, Nat.zero_le _, rfl, fun h => absurd rfl h⟩, ⟨vn, vd, ?_⟩, Gro.of_exc hX⟩
  rw [sumP_snoc, List.length_append, List.length_singleton, Nat.succ_mul, ← Nat.add_assoc]
  exact ⟨a1, rfl, a2, a3, a4, a5⟩
end Go.Proofs.YtelbjmhhbeijkaaGreat
namespace Go.Proofs.YtelbjmhhbeijkaaGreat
open Go.Vg Go.RowKit _root_.Go.Proofs.Tryz
set_option linter.unusedVariables false
open Go.Vm
set_option maxHeartbeats 1000000 in
theorem v_norm {w : World} {L : Nat} {Dx : Nat → TypeId → Prop} {vx : Value} {x : List Ent'} (hx0 : Es L Dx w vx x) {M : Nat} (hfx : (Asc x ∧ L ≤ M) ∨ (x.length + 1) * (L + 3) ≤ M) (hlx : x.length ≤ 524288) (hM : M ≤ 8589934000) :
    Calls Tryz.prog 28 #[vx] w fun e w' => ∃ v, e = .returned v ∧ (∃ rs, Oe (M + 1) (fun b T => w.heap.size ≤ b ∧ T = 89) w' w.heap.size 55 v rs ∧ Asc rs ∧ NonZ rs ∧ (∀ i, get rs i = get x i) ∧ rs.length ≤ x.length ∧ v.ownBlock ≠ none) ∧ Ext w w' := by
 have hE : Below w.heap.size w w := Below.refl _ _
 have hx := hx0.old
 clear hx0
 refine calls_of (n := 6) (rs := [.tmp 2]) func28 rfl rfl rfl bL ?_
 refine wset fun F0 hF0 => ?_
 refine wsr (aS (v := (.slice none (0) (0))) rfl (RL.nil (wsr (mV (v := vx) (hF0 0) ?_))))
 refine cL ent44 (v_arrange (es := x) (M := M) hx hfx oM) rfl ?_
 rintro va4 w1 ⟨⟨esar3, hrar3, haar3, hgar3, hlar3⟩, he2⟩
 replace hE := hE.nx he2
 refine RL.call rfl rfl dC (r_call (vl := [va4, (.slice none (0) (0)), (.func (.func 49) #[] #[])]) ent43 rfl) (v_merge (L := M) (D := (fun _ _ => True)) ((hrar3.mono (fun _ _ _ => trivial)).wide oM) Es.nil haar3 List.Pairwise.nil ent49 (op_norm oM) (Nat.le_refl _) (j_true) (trivial) (fun k h => by cases h) (fun k T h => by cases h) oM (Nat.zero_le _) oM oM) ?_
 rintro vm8 w5 ⟨⟨rs9, ps10, ho11, hm12, hj13, hl14, hp15, hw16⟩, hg6⟩
 replace ho11 := Oe.fr (D' := (fun b T => w.heap.size ≤ b ∧ T = 89)) (lo' := w.heap.size) ho11 hE.size (fun _ _ h => ⟨Nat.le_trans hE.size h.1, h.2⟩)
 have he7 := hg6.ext
 replace hE := hE.nx he7
 refine aS (v := vm8) rfl (RL.nil ?_)
 refine wret ?_
 refine ⟨[vm8], ⟨rfl, trivial⟩, ?_⟩
 obtain ⟨f1, f2, f3⟩ := hm12.fin rfl
 exact ⟨⟨rs9, ho11, f1, f2, fun i => (f3 i).trans (by show get _ i = _; rw [hgar3 i]), by first | omega | (simp only [List.length_nil] at *; omega), hw16⟩, hE⟩
set_option maxHeartbeats 1000000 in
theorem v_dot {w : World} {Lx : Nat} {Dx : Nat → TypeId → Prop} {vx : Value} {x : List Ent'} (hx0 : Es Lx Dx w vx x) {Ly : Nat} {Dy : Nat → TypeId → Prop} {vy : Value} {y : List Ent'} (hy0 : Es Ly Dy w vy y) {M : Nat} (hfx : (Asc x ∧ Lx ≤ M) ∨ (x.length + 1) * (Lx + 3) ≤ M) (hlx : x.length ≤ 40) (hfy : (Asc y ∧ Ly ≤ M) ∨ (y.length + 1) * (Ly + 3) ≤ M) (hly : y.length ≤ 40) (hM : M ≤ 53687088) :
    Calls Tryz.prog 18 #[vx, vy] w fun e w' => ∃ v, e = .returned v ∧ (∃ vn vd, v = .agg #[.bool (decide ((dtF x y).num < 0)), vn, vd] ∧ Sg (gN .u32) (fun _ T => T = 89) w' vn (digs (dtF x y).num.natAbs) ∧ Sg (gN .u32) (fun _ T => T = 89) w' vd (digs (dtF x y).den) ∧ (digs (dtF x y).num.natAbs).length ≤ 8589934592 ∧ (digs (dtF x y).den).length ≤ 8589934592) ∧ Ext w w' := by
 have hE : Below w.heap.size w w := Below.refl _ _
 have hx := hx0.old
 clear hx0
 have hy := hy0.old
 clear hy0
 refine calls_of (n := 14) (rs := [.cell 4 44]) func18 rfl rfl rfl bL ?_
 refine wset fun F0 hF0 => ?_
 refine wsr ?_
 refine rU (h_alloc (cs := [(.bool false), (.slice none 0 0), (.slice none 0 0)]) ty44 rfl) ?_
 rintro _ w1 ⟨b2, rfl, hs5, hb4, he3⟩
 have ge_b2 := hE.ge hs5
 replace hE := hE.nx he3
 refine RL.nil (wsr ?_)
 refine cL ent42 (q_from oM) rfl ?_
 rintro _ w6 ⟨⟨vn8, vd10, rfl, hn9, hd11, hl12, hl13⟩, he7⟩
 have hlv14 := den_one ((0 : Int) : Rat)
 replace hn9 := hn9.fr hE
 replace hd11 := hd11.fr hE
 replace hE := hE.nx he7
 refine rU (h_alloc (cs := [(.bool false), (.slice none 0 0), (.slice none 0 0)]) ty44 rfl) ?_
 rintro _ w15 ⟨b16, rfl, hs19, hb18, he17⟩
 replace hb4 := hb4.ext he7
 have lt_b2_b16 := Nat.lt_of_lt_of_eq hb4.lt hs19.symm
 have ge_b16 := hE.ge hs19
 refine RL.runs rfl rfl (h_stA (cs := [(bd (((0 : Int) : Rat).num < 0)), vn8, vd10]) (o := 0) ty44 rfl rfl rfl rfl (one_cons rfl (one_cons hn9.one (one_cons hd11.one one_nil))) hb18 bL) ?_
 rintro w20 ⟨hn21, hx22, hz23⟩
 have nb_hx22 := (Nb.of hb18 (nu_cons rfl (nu_cons rfl (nu_cons rfl nu_nil))))
 replace hb18 : Bk w20 b16 44 [(bd (((0 : Int) : Rat).num < 0)), vn8, vd10] := hn21
 refine RL.nil (wsr (mV (v := vx) (hF0 0) ?_))
 have ltDx := hb18.lt
 have hm28 := Ext.trans he3 (Ext.trans he7 he17)
 replace hx := (hx.tr (Sm.ext hm28)).tr (Sm.exc hx22 (fun _ _ _ _ hd => absurd hd.2 (Nat.not_lt_of_le ge_b16)))
 refine cL ent44 (v_arrange (es := x) (M := M) hx hfx oM) rfl ?_
 rintro va27 w24 ⟨⟨esar26, hrar26, haar26, hgar26, hlar26⟩, he25⟩
 refine mV (v := vy) (hF0 1) ?_
 replace hb18 := hb18.ext he25
 have ltDy := hb18.lt
 replace hy := ((hy.tr (Sm.ext hm28)).tr (Sm.exc hx22 (fun _ _ _ _ hd => absurd hd.2 (Nat.not_lt_of_le ge_b16)))).tr (Sm.ext he25)
 refine cL ent44 (v_arrange (es := y) (M := M) hy hfy oM) rfl ?_
 rintro va32 w29 ⟨⟨esar31, hrar31, haar31, hgar31, hlar31⟩, he30⟩
 replace hE := (((hE.nx he17).nb hx22 ge_b16).nx he25).nx he30
 refine rV (r_makeFunc (vl := [(.pointer (some ⟨b16, 0, none⟩))]) rfl) ?_
 replace hrar26 := hrar26.tr (Sm.ext he30)
 replace hb18 := hb18.ext he30
 replace hn9 := ((hn9.tr (Sm.ext he17)).apn hx22 nb_hx22).tr (Sm.ext (Ext.trans he25 he30))
 replace hd11 := ((hd11.tr (Sm.ext he17)).apn hx22 nb_hx22).tr (Sm.ext (Ext.trans he25 he30))
 refine RL.call rfl rfl dC (r_call (vl := [va27, va32, (.func (.func 45) #[] #[(.pointer (some ⟨b16, 0, none⟩))])]) ent43 rfl) (v_merge (L := M) (D := (fun b _ => b ≠ b16)) ((hrar26.mono (fun b T h he => by subst he; rcases h with h | h; exact absurd h.1.2 (Nat.not_lt_of_le ge_b16); exact absurd ltDx (Nat.not_lt_of_le h.1))).wide oM) ((hrar31.mono (fun b T h he => by subst he; rcases h with h | h; exact absurd h.1.2 (Nat.not_lt_of_le ge_b16); exact absurd ltDy (Nat.not_lt_of_le h.1))).wide oM) haar26 haar31 ent45 (op_dot (K := 80) (b5 := b16) oM oM) oM (jd_ok hb18.lt) (⟨_, _, hb18, rfl, hn9.mono (fun _ _ h => h.2), hd11.mono (fun _ _ h => h.2), Nat.zero_le _, Nat.le_trans (show (digs (sumP []).den).length ≤ 2 from Nat.le_succ 1) (Nat.le_add_right _ _)⟩) (fun k h => by cases h; exact hb18.lt) (fun k T h hd => by cases h; exact hd rfl) oM oM oM oM) ?_
 rintro vm36 w33 ⟨⟨rs37, ps38, ho39, hm40, hj41, hl42, hp43, hw44⟩, hg34⟩
 replace ho39 := Oe.fr (D' := (fun b T => w.heap.size ≤ b ∧ T = 89)) (lo' := w.heap.size) ho39 hE.size (fun _ _ h => ⟨Nat.le_trans hE.size h.1, h.2⟩)
 have he35 := hg34.exc
 obtain ⟨vD, uD, hbD, _, hxD, hdD, lnD, ldD⟩ := hj41
 have hsum : sumP ps38 = dtF esar26 esar31 := hm40.sum
 rw [hsum] at hbD hxD hdD lnD ldD
 replace hb18 := hbD
 have hpm := Nat.mul_le_mul_right (2 * M + 6) (show ps38.length ≤ 80 by omega)
 refine RL.nil (wsr ?_)
 have hc45 := hb18.cells (o := 0) (cs := [(bd ((dtF esar26 esar31).num < 0)), vD, uD]) rfl
 refine rV (r_loada (o := 0) (cs := [(bd ((dtF esar26 esar31).num < 0)), vD, uD]) uT44 ag44 ty44 rfl hc45) ?_
 replace hb4 := (((hb4.ext he17).exc hx22 (Nat.ne_of_lt lt_b2_b16)).ext (Ext.trans he25 he30)).exc he35 (Nat.ne_of_lt lt_b2_b16)
 refine RL.runs rfl rfl (h_stA (cs := [(bd ((dtF esar26 esar31).num < 0)), vD, uD]) (o := 0) ty44 rfl rfl rfl rfl (one_cons rfl (one_cons hxD.one (one_cons hdD.one one_nil))) hb4 bL) ?_
 rintro w46 ⟨hn47, hx48, hz49⟩
 replace hE := (hE.nb he35 ge_b16).nb hx48 ge_b2
 have nb_hx48 := (Nb.of hb4 (nu_cons rfl (nu_cons rfl (nu_cons rfl nu_nil))))
 replace hb4 : Bk w46 b2 44 [(bd ((dtF esar26 esar31).num < 0)), vD, uD] := hn47
 refine RL.nil ?_
 refine wret ?_
 refine ⟨[(.agg #[(bd ((dtF esar26 esar31).num < 0)), vD, uD])], ⟨⟨_, _, [(bd ((dtF esar26 esar31).num < 0)), vD, uD], rfl, ⟨_, uT44⟩, hb4.cells rfl, .inl ⟨ag44, ⟨_, _, ty44⟩, rfl⟩⟩, trivial⟩, ?_⟩
 have hq : dtF esar26 esar31 = dtF x y := dtF_ext hgar26 hgar31
 replace hxD := hxD.apn hx48 nb_hx48
 replace hdD := hdD.apn hx48 nb_hx48
 rw [hq] at hxD hdD lnD ldD
 exact ⟨⟨_, _, agg3 (by rw [hq]), hxD, hdD, by omega, by omega⟩, hE⟩
end Go.Proofs.YtelbjmhhbeijkaaGreat
namespace Go.Proofs.YtelbjmhhbeijkaaGreat
open Go.Vg Go.RowKit _root_.Go.Proofs.Tryz
set_option linter.unusedVariables false
open Go.Vm
set_option maxHeartbeats 1000000 in
theorem r02_eqt {w : World} {sx : Bool} {Dx Dy : Nat → TypeId → Prop} {vx vy : Value} {x : List Nat} (hx : Sg (gN .u32) Dx w vx x) (hy : Sg (gN .u32) Dy w vy x) :
    Calls Tryz.prog 40 #[(.agg #[(.bool sx), vx]), (.agg #[(.bool sx), vy])] w fun e w' => ∃ v, e = .returned v ∧ v = .bool true ∧ Ext w w' := by
 have hE : Below w.heap.size w w := Below.refl _ _
 refine calls_of (n := 17) (rs := [.tmp 4]) func40 rfl rfl rfl bL ?_
 refine wset fun F0 hF0 => ?_
 refine wsr ?_
 refine rU (h_bxA (cs := [(.bool sx), vx]) (hF0 0) rfl) ?_
 rintro _ w1 ⟨b2, rfl, hs5, hb4, he3⟩
 have ge_b2 := hE.ge hs5
 replace hE := hE.nx he3
 refine rU (h_bxA (cs := [(.bool sx), vy]) (hF0 1) rfl) ?_
 rintro _ w6 ⟨b7, rfl, hs10, hb9, he8⟩
 have lt_b2_b7 := Nat.lt_of_lt_of_eq hb4.lt hs10.symm
 have ge_b7 := hE.ge hs10
 replace hE := hE.nx he8
 refine aS (v := (.bool false)) rfl (RL.nil (wsr (rV (r_fieldAddr uT42 rfl ty4 rfl) ?_)))
 replace hb4 := hb4.ext he8
 have hc11 := hb4.cell (j := 0) (u := (.bool sx)) rfl
 refine rV (r_load uT4 ag4 rfl hc11) (rV (r_fieldAddr uT42 rfl ty4 rfl) ?_)
 have hc12 := hb9.cell (j := 0) (u := (.bool sx)) rfl
 refine rV (r_load uT4 ag4 rfl hc12) (rV (r_eqlb uT4 rfl rfl) (mV (v := (.bool (sx == sx))) rfl ?_))
 rcases Bool.eq_false_or_eq_true (sx == sx) with hb13 | hb13
 ·have hb13p := hb13
  refine RL.gval rfl rfl (bool_eq hb13) rfl dC (r_fieldAddr uT42 rfl ty40 rfl) ?_
  have hc14 := hb4.cell (j := 1) (u := vx) rfl
  refine RL.gval rfl rfl (bool_eq hb13) rfl dC (r_load uT40 ag40 rfl hc14) ?_
  refine RL.gval rfl rfl (bool_eq hb13) rfl dC (r_fieldAddr uT42 rfl ty40 rfl) ?_
  have hc15 := hb9.cell (j := 1) (u := vy) rfl
  refine RL.gval rfl rfl (bool_eq hb13) rfl dC (r_load uT40 ag40 rfl hc15) ?_
  replace hx := hx.tr (Sm.ext (Ext.trans he3 he8))
  replace hy := hy.tr (Sm.ext (Ext.trans he3 he8))
  refine RL.gcall rfl rfl (bool_eq hb13) rfl dC (r_call (vl := [vx, vy]) ent41 rfl) (r01_equal hx hy) ?_
  rintro _ w16 ⟨rfl, he17⟩
  replace hE := hE.nx he17
  refine rV (r_pick_t (v := (bd (x = x))) (bool_eq hb13) rfl) (aS (v := (bd (x = x))) rfl (RL.nil ?_))
  refine wret ?_
  refine ⟨[(bd (x = x))], ⟨rfl, trivial⟩, ?_⟩
  exact ⟨bool_eq (decide_eq_true rfl), hE⟩
 have hb13p := hb13
 exact absurd hb13p (by simp)
set_option maxHeartbeats 1000000 in
theorem r03_eqt {w : World} {q : Rat} {Dx : Nat → TypeId → Prop} {vx ux : Value} (hx : Sg (gN .u32) Dx w vx (digs q.num.natAbs)) (hdx : Sg (gN .u32) Dx w ux (digs q.den)) {Dy : Nat → TypeId → Prop} {vy uy : Value} (hy : Sg (gN .u32) Dy w vy (digs q.num.natAbs)) (hdy : Sg (gN .u32) Dy w uy (digs q.den)) :
    Calls Tryz.prog 17 #[(.agg #[(bd (q.num < 0)), vx, ux]), (.agg #[(bd (q.num < 0)), vy, uy])] w fun e w' => ∃ v, e = .returned v ∧ v = .bool true ∧ Ext w w' := by
 have hE : Below w.heap.size w w := Below.refl _ _
 refine calls_of (n := 17) (rs := [.tmp 4]) func17 rfl rfl rfl bL ?_
 refine wset fun F0 hF0 => ?_
 refine wsr ?_
 refine rU (h_bxA (cs := [(bd (q.num < 0)), vx, ux]) (hF0 0) rfl) ?_
 rintro _ w1 ⟨b2, rfl, hs5, hb4, he3⟩
 have ge_b2 := hE.ge hs5
 replace hE := hE.nx he3
 refine rU (h_bxA (cs := [(bd (q.num < 0)), vy, uy]) (hF0 1) rfl) ?_
 rintro _ w6 ⟨b7, rfl, hs10, hb9, he8⟩
 have lt_b2_b7 := Nat.lt_of_lt_of_eq hb4.lt hs10.symm
 have ge_b7 := hE.ge hs10
 refine aS (v := (.bool false)) rfl (RL.nil (wsr (rV (r_fieldAddr uT44 rfl ty42 rfl) ?_)))
 replace hb4 := hb4.ext he8
 have hc11 := hb4.cells (o := 0) (cs := [(bd (q.num < 0)), vx]) rfl
 refine rV (r_loada (o := 0) (cs := [(bd (q.num < 0)), vx]) uT42 ag42 ty42 rfl hc11) (rV (r_fieldAddr uT44 rfl ty42 rfl) ?_)
 have hc12 := hb9.cells (o := 0) (cs := [(bd (q.num < 0)), vy]) rfl
 refine rV (r_loada (o := 0) (cs := [(bd (q.num < 0)), vy]) uT42 ag42 ty42 rfl hc12) ?_
 replace hx := hx.tr (Sm.ext (Ext.trans he3 he8))
 replace hy := hy.tr (Sm.ext (Ext.trans he3 he8))
 refine RL.call rfl rfl dC (r_call (vl := [(.agg #[(bd (q.num < 0)), vx]), (.agg #[(bd (q.num < 0)), vy])]) ent40 rfl) (r02_eqt hx hy) ?_
 rintro _ w13 ⟨rfl, he14⟩
 refine mV (v := (.bool true)) rfl ?_
 refine RL.gval rfl rfl rfl rfl dC (r_fieldAddr uT44 rfl ty40 rfl) ?_
 replace hb4 := hb4.ext he14
 have hc15 := hb4.cell (j := 2) (u := ux) rfl
 refine RL.gval rfl rfl rfl rfl dC (r_load uT40 ag40 rfl hc15) ?_
 refine RL.gval rfl rfl rfl rfl dC (r_fieldAddr uT44 rfl ty40 rfl) ?_
 replace hb9 := hb9.ext he14
 have hc16 := hb9.cell (j := 2) (u := uy) rfl
 refine RL.gval rfl rfl rfl rfl dC (r_load uT40 ag40 rfl hc16) ?_
 have hm19 := Ext.trans he3 (Ext.trans he8 he14)
 replace hdx := hdx.tr (Sm.ext hm19)
 replace hdy := hdy.tr (Sm.ext hm19)
 refine RL.gcall rfl rfl rfl rfl dC (r_call (vl := [ux, uy]) ent41 rfl) (r01_equal hdx hdy) ?_
 rintro _ w17 ⟨rfl, he18⟩
 replace hE := ((hE.nx he8).nx he14).nx he18
 refine rV (r_pick_t (v := (bd ((digs q.den) = (digs q.den)))) rfl rfl) (aS (v := (bd ((digs q.den) = (digs q.den)))) rfl (RL.nil ?_))
 refine wret ?_
 refine ⟨[(bd ((digs q.den) = (digs q.den)))], ⟨rfl, trivial⟩, ?_⟩
 exact ⟨bool_eq (decide_eq_true rfl), hE⟩
set_option maxHeartbeats 1000000 in
theorem r03_cant {w : World} {q : Rat} {Dx : Nat → TypeId → Prop} {vx ux : Value} (hx : Sg (gN .u32) Dx w vx (digs q.num.natAbs)) (hdx : Sg (gN .u32) Dx w ux (digs q.den)) (ln : (digs q.num.natAbs).length ≤ 17179869184) (ld : (digs q.den).length ≤ 17179869184) :
    Calls Tryz.prog 34 #[(.agg #[(bd (q.num < 0)), vx, ux])] w fun e w' => ∃ v, e = .returned v ∧ v = .bool true ∧ Ext w w' := by
 have hE : Below w.heap.size w w := Below.refl _ _
 refine calls_of (n := 7) (rs := [.tmp 2]) func34 rfl rfl rfl bL ?_
 refine wset fun F0 hF0 => ?_
 refine wsr ?_
 refine rU (h_bxA (cs := [(bd (q.num < 0)), vx, ux]) (hF0 0) rfl) ?_
 rintro _ w1 ⟨b2, rfl, hs5, hb4, he3⟩
 have ge_b2 := hE.ge hs5
 refine aS (v := (.bool false)) rfl (RL.nil (wseq ?_))
 refine wdraw mixed fun w6 he7 => ?_
 replace hE := (hE.nx he3).nx he7
 replace hb4 := hb4.ext he7
 have hc8 := hb4.cells (o := 0) (cs := [(bd (q.num < 0)), vx, ux]) rfl
 refine aR 0 rfl (fun u hu => r_loada (o := 0) (cs := [(bd (q.num < 0)), vx, ux]) uT44 ag44 ty44 rfl (fun j v hj => cell_ext hu (hc8 j v hj))) ?_
 have hc9 := hb4.cells (o := 0) (cs := [(bd (q.num < 0)), vx, ux]) rfl
 refine aR 1 rfl (fun u hu => r_loada (o := 0) (cs := [(bd (q.num < 0)), vx, ux]) uT44 ag44 ty44 rfl (fun j v hj => cell_ext hu (hc9 j v hj))) ?_
 refine RA.all [2] kR rfl ?_
 replace hx := hx.tr (Sm.ext (Ext.trans he3 he7))
 replace hdx := hdx.tr (Sm.ext (Ext.trans he3 he7))
 refine RS.call rfl rfl rfl dC (r_call (vl := [(.agg #[(bd (q.num < 0)), vx, ux])]) ent48 rfl) (r03_norm hx (digs_lm _) oS hdx (digs_lm _) oS (ratOf_canon _)) ?_ RS.nil
 rintro _ w10 ⟨⟨vn12, vd14, rfl, hn13, hd15, hl16, hl17⟩, he11⟩
 refine rm he11 ?_
 have hlv18 := den_one q
 replace hn13 := hn13.fr hE
 replace hd15 := hd15.fr hE
 refine RA.all [3] kR rfl ?_
 replace hx := hx.tr (Sm.ext he11)
 replace hdx := hdx.tr (Sm.ext he11)
 refine RS.call rfl rfl rfl dC (r_call (vl := [(.agg #[(bd (q.num < 0)), vx, ux]), (.agg #[(bd (q.num < 0)), vn12, vd14])]) ent17 rfl) (r03_eqt hx hdx hn13 hd15) ?_ RS.nil
 rintro _ w19 ⟨rfl, he20⟩
 refine rm he20 ?_
 replace hE := (hE.nx he11).nx he20
 refine aA 4 rfl (v := (.bool true)) rfl ?_
 refine RA.done kR ?_
 refine wret ?_
 refine ⟨[(.bool true)], ⟨rfl, trivial⟩, ?_⟩
 exact ⟨rfl, hE⟩
set_option maxHeartbeats 4000000 in
theorem r06_ident {w : World} {L : Nat} {Dx Dy : Nat → TypeId → Prop} {vx vy : Value} {es : List Ent'} (hx0 : Ec L Dx w vx es) (hy0 : Ec L Dy w vy es) (hL : L ≤ 17179869184) :
    Calls Tryz.prog 13 #[vx, vy] w fun e w' => ∃ v, e = .returned v ∧ v = .bool true ∧ Ext w w' := by
 have hE : Below w.heap.size w w := Below.refl _ _
 have hx := hx0
 have hy := hy0
 clear hx0 hy0
 refine calls_of (n := 51) (rs := [.tmp 4]) func13 rfl rfl rfl bL ?_
 refine wset fun F0 hF0 => ?_
 refine wsr (aS (v := (.bool false)) rfl (RL.nil (wseq (wsr (mV (v := vx) (hF0 0) ?_)))))
 obtain ⟨A1, c2, hv3, hc4, hc5⟩ := hx.len
 refine rV (r_len uT22 hv3) (mV (v := vy) (hF0 1) ?_)
 obtain ⟨A6, c7, hv8, hc9, hc10⟩ := hy.len
 refine rV (r_len uT22 hv8) (rV (r_neq (k := .i64) (a := ((es.length : Nat) : Int)) (b := ((es.length : Nat) : Int)) rfl rfl) (RL.nil ?_))
 refine wcD (p := ((es.length : Nat) : Int) ≠ ((es.length : Nat) : Int)) rfl (fun hb11 hb11p => ?_) (fun hb11 hb11p => ?_)
 ·exact absurd rfl hb11p
 refine wskip ?_
 refine wseq (wsr (aS (v := (iv 0)) rfl (RL.nil ?_)))
 refine wblock ?_
 refine wset fun F12 hF13 => ?_
 refine wloop (σ := Nat) (fun (k : Nat) fl wl => Off (rg 4 2 (rg 11 40 [])) F12 fl ∧ fl 5 = (iv k) ∧ (k ≤ es.length) ∧ (Ec L Dx wl vx es) ∧ (Ec L Dy wl vy es) ∧ (Below w.heap.size w wl)) (fun (k : Nat) => es.length - k) (0) ?_ ?_
 ·exact ⟨Off.refl _ _, (hF13 5).trans (rfl), Nat.zero_le _, hx, hy, hE⟩
 clear hx hy hE
 rintro k f14 w15 ⟨G16, hs17, hk, hx, hy, hE⟩
 refine wseq (wsr (mV hs17 (mV (v := vx) ((G16 0 rfl).trans ((hF13 0).trans (hF0 0))) (rV (r_len uT22 hv3) (rV (r_lss (k := .i64) (a := (k : Int)) (b := ((es.length : Nat) : Int)) rfl rfl) (RL.nil ?_))))))
 refine wcD (p := (k : Int) < ((es.length : Nat) : Int)) rfl (fun hb18 hb18p => ?_) (fun hb18 hb18p => ?_)
 ·refine wskip ?_
  refine wseq ?_
  refine wblock ?_
  refine wseq ?_
  refine wdraw mixed fun w19 he20 => ?_
  replace hE := hE.nx he20
  refine aM 0 rfl (v := vx) ((G16 0 rfl).trans ((hF13 0).trans (hF0 0))) ?_
  refine aM 1 rfl (v := (iv k)) hs17 ?_
  replace hx := hx.tr (Sm.ext he20)
  obtain ⟨b21, o22, c23, A26, B27, hv24, hc25, hx28, hd29, ln30, ln31⟩ := hx.ix (i := (k : Int)) (k) oM oM
  refine ra 2 rfl (fun _ => r_indexAddr (i := (k : Int)) uT22 ty55 hv24 rfl oM oM) ?_
  refine ra 3 rfl (fun _ => r_fieldAddr uT55 rfl ty3 rfl) ?_
  refine aR 4 rfl (fun u hu => r_load (v := (iv ((es.getD (k) default).1))) uT3 ag3 rfl (cell_ext hu (hc25 0 _ rfl))) ?_
  refine aM 5 rfl (v := vy) ((G16 1 rfl).trans ((hF13 1).trans (hF0 1))) ?_
  refine aM 6 rfl (v := (iv k)) hs17 ?_
  replace hy := hy.tr (Sm.ext he20)
  obtain ⟨b32, o33, c34, A37, B38, hv35, hc36, hx39, hd40, ln41, ln42⟩ := hy.ix (i := (k : Int)) (k) oM oM
  refine ra 7 rfl (fun _ => r_indexAddr (i := (k : Int)) uT22 ty55 hv35 rfl oM oM) ?_
  refine ra 8 rfl (fun _ => r_fieldAddr uT55 rfl ty3 rfl) ?_
  refine aR 9 rfl (fun u hu => r_load (v := (iv ((es.getD (k) default).1))) uT3 ag3 rfl (cell_ext hu (hc36 0 _ rfl))) ?_
  refine ra 10 rfl (fun _ => r_neq (k := .i64) (a := (es.getD (k) default).1) (b := (es.getD (k) default).1) rfl rfl) ?_
  refine aM 11 rfl (v := (bd (((es.getD (k) default).1) ≠ ((es.getD (k) default).1)))) rfl ?_
  rcases bD (((es.getD (k) default).1) ≠ ((es.getD (k) default).1)) with ⟨hb43, hb43p⟩ | ⟨hb43, hb43p⟩
  ·exact absurd rfl hb43p
  refine aG 12 rfl rfl (bool_eq hb43) (fun _ => r_move_as (v := vx) ((G16 0 rfl).trans ((hF13 0).trans (hF0 0)))) ?_
  refine aG 13 rfl rfl (bool_eq hb43) (fun _ => r_move_as (v := (iv k)) hs17) ?_
  obtain ⟨b44, o45, c46, A49, B50, hv47, hc48, hx51, hd52, ln53, ln54⟩ := hx.ix (i := (k : Int)) (k) oM oM
  refine aG 14 rfl rfl (bool_eq hb43) (fun _ => r_indexAddr (i := (k : Int)) uT22 ty55 hv47 rfl oM oM) ?_
  refine aG 15 rfl rfl (bool_eq hb43) (fun _ => r_fieldAddr uT55 rfl ty44 rfl) ?_
  refine RA.grd 16 rfl kR rfl rfl rfl (bool_eq hb43) rfl dC (Ext.refl _) (fun u hu => r_loada (cs := [(bd ((es.getD (k) default).2.num < 0)), (sv A49), (sv B50)]) uT44 ag44 ty44 rfl (fun j v hj => cell_ext hu ((cdrop hc48 1) j v hj))) ?_
  refine RA.all [17] kR rfl ?_
  refine RS.gcall rfl rfl rfl (bool_eq hb43) rfl dC (r_call (vl := [(.agg #[(bd ((es.getD (k) default).2.num < 0)), (sv A49), (sv B50)])]) ent34 rfl) (r03_cant hx51 hd52 oM oM) ?_ RS.nil
  rintro _ w55 ⟨rfl, he56⟩
  refine rm he56 ?_
  refine aG 18 rfl rfl (bool_eq hb43) (fun _ => r_not rfl) ?_
  refine ra 19 rfl (fun _ => r_pick_f (v := (.bool false)) (bool_eq hb43) rfl) ?_
  refine aM 20 rfl (v := (.bool false)) rfl ?_
  refine aG 21 rfl rfl rfl (fun _ => r_move_as (v := vx) ((G16 0 rfl).trans ((hF13 0).trans (hF0 0)))) ?_
  refine aG 22 rfl rfl rfl (fun _ => r_move_as (v := (iv k)) hs17) ?_
  replace hx := hx.tr (Sm.ext he56)
  obtain ⟨b57, o58, c59, A62, B63, hv60, hc61, hx64, hd65, ln66, ln67⟩ := hx.ix (i := (k : Int)) (k) oM oM
  refine aG 23 rfl rfl rfl (fun _ => r_indexAddr (i := (k : Int)) uT22 ty55 hv60 rfl oM oM) ?_
  refine aG 24 rfl rfl rfl (fun _ => r_fieldAddr uT55 rfl ty44 rfl) ?_
  refine RA.grd 25 rfl kR rfl rfl rfl rfl rfl dC (Ext.refl _) (fun u hu => r_loada (cs := [(bd ((es.getD (k) default).2.num < 0)), (sv A62), (sv B63)]) uT44 ag44 ty44 rfl (fun j v hj => cell_ext hu ((cdrop hc61 1) j v hj))) ?_
  refine aG 26 rfl rfl rfl (fun _ => r_move_as (v := vy) ((G16 1 rfl).trans ((hF13 1).trans (hF0 1)))) ?_
  refine aG 27 rfl rfl rfl (fun _ => r_move_as (v := (iv k)) hs17) ?_
  replace hy := hy.tr (Sm.ext he56)
  obtain ⟨b68, o69, c70, A73, B74, hv71, hc72, hx75, hd76, ln77, ln78⟩ := hy.ix (i := (k : Int)) (k) oM oM
  refine aG 28 rfl rfl rfl (fun _ => r_indexAddr (i := (k : Int)) uT22 ty55 hv71 rfl oM oM) ?_
  refine aG 29 rfl rfl rfl (fun _ => r_fieldAddr uT55 rfl ty44 rfl) ?_
  refine RA.grd 30 rfl kR rfl rfl rfl rfl rfl dC (Ext.refl _) (fun u hu => r_loada (cs := [(bd ((es.getD (k) default).2.num < 0)), (sv A73), (sv B74)]) uT44 ag44 ty44 rfl (fun j v hj => cell_ext hu ((cdrop hc72 1) j v hj))) ?_
  refine RA.all [31] kR rfl ?_
  refine RS.gcall rfl rfl rfl rfl rfl dC (r_call (vl := [(.agg #[(bd ((es.getD (k) default).2.num < 0)), (sv A62), (sv B63)]), (.agg #[(bd ((es.getD (k) default).2.num < 0)), (sv A73), (sv B74)])]) ent17 rfl) (r03_eqt hx64 hd65 hx75 hd76) ?_ RS.nil
  rintro _ w79 ⟨rfl, he80⟩
  refine rm he80 ?_
  replace hE := (hE.nx he56).nx he80
  refine aG 32 rfl rfl rfl (fun _ => r_not rfl) ?_
  refine ra 33 rfl (fun _ => r_pick_f (v := (.bool false)) rfl rfl) ?_
  refine RA.done kR ?_
  refine wcond_f rfl ?_
  refine wskip ?_
  refine wregion (mV hs17 (rV (r_add (k := .i64) (a := (k : Int)) (b := 1) (c := (k : Int) + 1) rfl rfl (wi64 oM)) (aS (v := (iv ((k : Int) + 1))) rfl (RL.nil ?_))))
  replace hx := hx.tr (Sm.ext he80)
  replace hy := hy.tr (Sm.ext he80)
  refine ⟨(k + 1), ⟨?_, ?_, ?_, ?_, ?_, ?_⟩, ?_⟩
  · exact (by repeat (first | exact G16 | refine Off.st ?_ dC _))
  · first | rfl | exact int_eq oM | exact bool_eq (by simp)
  · omega
  · exact hx
  · exact hy
  · exact hE
  (try dsimp only)
  omega
 refine wexit ?_
 refine wsr (aS (v := (.bool true)) rfl (RL.nil ?_))
 refine wret ?_
 refine ⟨[(.bool true)], ⟨rfl, trivial⟩, ?_⟩
 exact ⟨rfl, hE⟩
end Go.Proofs.YtelbjmhhbeijkaaGreat
namespace Go.Vg
open Go Go.RowKit Go.Vm
def Oz (L : Nat) (D : Nat → TypeId → Prop) (w : World) (lo : Nat) (T : TypeId) (v : Value) (es : List Ent') : Prop := ∃ xs, Ow w lo T 4 v xs.length (xs.map entC).flatten ∧ Fe (Ez L D w) xs es
section
variable {L L' : Nat} {D D' : Nat → TypeId → Prop} {w w' : World} {lo b : Nat} {T T' : TypeId} {v : Value} {es : List Ent'} {l : List Value}
theorem Oz.nil : Oz L D w lo T (.slice none 0 0) [] := ⟨[], Ow.nil lo 4, Fe.nil⟩
theorem Oz.ext (h : Oz L D w lo T v es) (e : Ext w w') : Oz L D w' lo T v es := by
  obtain ⟨xs, h1, h2⟩ := h
  exact ⟨xs, h1.ext e, h2.imp fun _ _ h => h.tr (Sm.ext e)⟩
theorem Oz.exo (h : Oz L D w lo T v es) (e : Exc b w w') (hne : v.ownBlock ≠ some b) (hb : Nb w b) : Oz L D w' lo T v es := by
  obtain ⟨xs, h1, h2⟩ := h
  exact ⟨xs, h1.exo e hne, h2.imp fun _ _ h => h.apn e hb⟩
theorem Oz.lt (h : Oz L D w lo T v es) (b : Nat) (hb : v.ownBlock = some b) : b < w.heap.size := by obtain ⟨xs, h1, h2⟩ := h; exact (World.ownsRow.lt h1 b hb).2
theorem Oz.one (h : Oz L D w lo T v es) : v.oneCell' = true := by obtain ⟨xs, h1, h2⟩ := h; exact h1.one
theorem Oz.len (h : Oz L D w lo T v es) : ∃ A c, v = .slice A es.length c ∧ es.length ≤ c ∧ c ≤ 9223372036854775807 := by obtain ⟨xs, h1, h2⟩ := h; rw [← h2.1]; exact h1.len
theorem Oz.gsm (h : Oz L D w lo T v es) (hg : w.grownBy w' v.ownBlock) (hD : ∀ b, lo ≤ b → ¬ D' b T) : Sm D' w w' := by obtain ⟨xs, h1, h2⟩ := h; exact h1.sm hg hD
theorem Oz.gbk (h : Oz L D w lo T v es) (hg : w.grownBy w' v.ownBlock) (hb : Bk w b T' l) (hne : T' ≠ T) : Bk w' b T' l := by obtain ⟨xs, h1, h2⟩ := h; exact h1.bk hg hb (.inr hne)
theorem Oz.gbo (_h : Oz L D w lo T v es) (hg : w.grownBy w' v.ownBlock) (hb : Bk w b T' l) (hne : v.ownBlock ≠ some b) : Bk w' b T' l := (hg.block b hb.lt (fun he => hne he.symm)).trans hb
theorem Oz.gbe {w0 : World} {B : Nat} (h : Oz L D w lo T v es) (hg : w.grownBy w' v.ownBlock) (hE : Below B w0 w) (hB : B ≤ lo) (hs : B ≤ w.heap.size) : Below B w0 w' := by
  obtain ⟨xs, h1, h2⟩ := h
  exact h1.below hg hE hB hs
theorem Oz.rd (h : Oz L D w lo T v es) (h1 : ∀ b, lo ≤ b → D' b T) (h2 : ∀ b T, D b T → D' b T) : Es L D' w v es := by
  obtain ⟨xs, g1, g2⟩ := h
  exact ⟨xs, g1.ss rfl rfl dC (fun _ _ => rfl) h1, g2.imp fun _ _ h => h.mono h2⟩
end
section
variable {P : Program} {f : Nat → Value} {w : World} {dst : Option Tmp} {ty : TypeId} {pos : String} {aft : Array Edge} {g : Option (Nat × Bool)} {x y z : Operand} {t e : TypeId} {D D2 : Nat → TypeId → Prop}
theorem h_appendZ {L lo bytes : Nat} {zz v1 v2 : Value} {es : List Ent'} {i0 : Int} {s : Bool} {vn vd : Value} {q : Rat} (hu : P.underlying t = some (.slice e)) (ht : TyI P e 4 bytes zz) (hz : zz.cells.size = 4) (hx : ev f x = v1) (hy : ev f y = v2)
    (ho : Oz L D w lo e v1 es) (hs : Sc D2 w 4 v2 1 [.int .i64 i0, .bool s, vn, vd]) (hq : Rz L D w (s, vn, vd) q) (hD : ∀ b, lo ≤ b → ¬ D b e) (h63 : es.length + 1 ≤ maxLen) (hby : (es.length + 1) * bytes ≤ 140737488355328) (hlo : lo ≤ w.heap.size) :
    Run P f ⟨dst, .call ⟨.builtin .append, #[x, y], #[t, t]⟩, ty, pos, aft, g⟩ w fun v w' => Oz L D w' lo e v (es ++ [(i0, q)]) ∧ w.grownBy w' v1.ownBlock := by
  obtain ⟨A, B, rfl, rfl⟩ := hq.open'
  have ho' := ho
  obtain ⟨xs, h1, h2⟩ := ho
  obtain ⟨v, w', hr, h4, h5⟩ := h_append (P := P) (f := f) (dst := dst) (ty := ty) (pos := pos) (aft := aft) (g := g) hu ht hz dC hx hy h1 hs (one_ent (i0, s, A, B)) (by rw [h2.1]; exact h63) (by rw [h2.1]; exact hby) hlo
  have hsm : Sm D w w' := ho'.gsm h5 hD
  refine ⟨v, w', hr, ⟨xs ++ [(i0, s, A, B)], ?_, (h2.imp fun _ _ h => h.tr hsm).snoc ⟨rfl, hq.tr hsm⟩⟩, h5⟩
  rw [List.length_append, List.length_singleton, List.map_append, List.flatten_append]
  simpa using h4
end
abbrev LC : Type := Int × Bool × Value × Value
abbrev litC : LC → List Value := fun c => [.int .i64 c.1, .bool c.2.1, c.2.2.1, c.2.2.2]
section
variable {L : Nat} {D D' : Nat → TypeId → Prop} {w : World} {b : Nat} {T : TypeId}
theorem lit_open {R : RC → Rat → Prop} (hR : ∀ c q, R c q → ∃ A B : SV, c.2.1 = sv A ∧ c.2.2 = sv B) : ∀ (l : List (LC × Rat)), (∀ p ∈ l, R p.1.2 p.2) → ∃ xs : List EC, (xs.map entC).flatten = ((l.map Prod.fst).map litC).flatten ∧ Fe (fun x e => x.1 = e.1 ∧ R (rcOf x) e.2) xs (l.map fun p => (p.1.1, p.2)) := by
  intro l
  induction l with
  | nil => intro _; exact ⟨[], rfl, Fe.nil⟩
  | cons p l ih =>
    intro h
    obtain ⟨xs, h1, h2⟩ := ih (fun q hq => h q (List.mem_cons_of_mem _ hq))
    obtain ⟨A, B, e1, e2⟩ := hR _ _ (h p (List.mem_cons_self ..))
    refine ⟨(p.1.1, p.1.2.1, A, B) :: xs, ?_, by simp [h2.1], fun k hk => ?_⟩
    · simp only [List.map_cons, List.flatten_cons, h1]
      rw [show entC (p.1.1, p.1.2.1, A, B) = litC p.1 by simp only [entC, litC]; rw [e1, e2]]
    cases k with
    | zero =>
      refine ⟨rfl, ?_⟩
      have := h p (List.mem_cons_self ..)
      have e3 : p.1.2 = (p.1.2.1, sv A, sv B) := Prod.ext rfl (Prod.ext e1 e2)
      rw [e3] at this
      exact this
    | succ k =>
      have := h2.2 k (by simpa using hk)
      simpa [List.getD_eq_getElem?_getD] using this
theorem Es.lit (l : List (LC × Rat)) (hb : Bk w b T ((l.map Prod.fst).map litC).flatten) (hd : D b T) (hm : l.length ≤ 9223372036854775807) (h : ∀ p ∈ l, Rz L D w p.1.2 p.2) : Es L D w (.slice (some ⟨b, 0, none⟩) l.length l.length) (l.map fun p => (p.1.1, p.2)) := by
  obtain ⟨xs, h1, h2⟩ := lit_open (R := Rz L D w) (fun c q h => h.open') l h
  have hl : xs.length = l.length := by rw [h2.1]; simp
  rw [← h1] at hb
  have ha : Ae [] w b T xs l.length := ⟨by rw [List.append_nil]; exact hb, hl⟩
  exact ⟨xs, ha.ss hd (Nat.le_refl _) hm, h2⟩
theorem Ec.lit (l : List (LC × Rat)) (hb : Bk w b T ((l.map Prod.fst).map litC).flatten) (hd : D b T) (hm : l.length ≤ 9223372036854775807) (h : ∀ p ∈ l, Rk L D w p.1.2 p.2) : Ec L D w (.slice (some ⟨b, 0, none⟩) l.length l.length) (l.map fun p => (p.1.1, p.2)) := by
  obtain ⟨xs, h1, h2⟩ := lit_open (R := Rk L D w) (fun c q h => h.open') l h
  have hl : xs.length = l.length := by rw [h2.1]; simp
  rw [← h1] at hb
  have ha : Ae [] w b T xs l.length := ⟨by rw [List.append_nil]; exact hb, hl⟩
  exact ⟨xs, ha.ss hd (Nat.le_refl _) hm, h2⟩
end
end Go.Vg
namespace Go.Proofs.YtelbjmhhbeijkaaGreat
open Go.Vg Go.RowKit _root_.Go.Proofs.Tryz
set_option linter.unusedVariables false
open Go.Vm
def shE (e : Ent') : Ent' := (modF e.1 9 - 1, e.2)
def shL (es : List Ent') : List Ent' := (es.take 40).map shE
theorem shL_len (es : List Ent') : (shL es).length ≤ 40 := by unfold shL; rw [List.length_map, List.length_take]; omega
set_option maxHeartbeats 1000000 in
theorem h_first {w : World} {L : Nat} {Des : Nat → TypeId → Prop} {ves : Value} {es : List Ent'} (hes0 : Es L Des w ves es) {n : Nat} (hn : n ≤ 1048576) :
    Calls Tryz.prog 25 #[ves, (iv n)] w fun e w' => ∃ v, e = .returned v ∧ Es L Des w' v (es.take n) ∧ Ext w w' := by
 have hE : Below w.heap.size w w := Below.refl _ _
 have hes := hes0.old
 clear hes0
 refine calls_of (n := 13) (rs := [.tmp 4]) func25 rfl rfl rfl bL ?_
 refine wset fun F0 hF0 => ?_
 refine wsr (aS (v := (.slice none (0) (0))) rfl (RL.nil (wseq (wsr (mV (v := ves) (hF0 0) ?_)))))
 obtain ⟨A1, c2, hv3, hc4, hc5⟩ := hes.len
 refine rV (r_len uT22 hv3) (mV (v := (iv n)) (hF0 1) (rV (r_gtr (k := .i64) (a := ((es.length : Nat) : Int)) (b := (n : Int)) rfl rfl) (RL.nil ?_)))
 refine wcD (p := (n : Int) < ((es.length : Nat) : Int)) rfl (fun hb6 hb6p => ?_) (fun hb6 hb6p => ?_)
 ·refine wsr ?_
  refine mV (v := ves) (hF0 0) (mV (v := (iv n)) (hF0 1) ?_)
  have r7 := hes.take (n) oM hv3
  refine rV (r_sh (h := (n : Int)) (kk := n) uT22 ty55 hv3 rfl oM oM) (aS (v := (.slice A1 (n) (c2))) rfl (RL.nil ?_))
  refine wret ?_
  refine ⟨[(.slice A1 (n) (c2))], ⟨rfl, trivial⟩, ?_⟩
  exact ⟨r7.mono (fun _ _ h => h.1), hE⟩
 refine wskip ?_
 refine wsr (mV (v := ves) (hF0 0) (aS (v := ves) rfl (RL.nil ?_)))
 refine wret ?_
 refine ⟨[ves], ⟨rfl, trivial⟩, ?_⟩
 rw [List.take_of_length_le oM]
 exact ⟨hes.mono (fun _ _ h => h.1), hE⟩
set_option maxHeartbeats 1000000 in
theorem l_short {w : World} {L : Nat} {Des : Nat → TypeId → Prop} {ves : Value} {es : List Ent'} (hes0 : Es L Des w ves es) :
    Calls Tryz.prog 6 #[ves] w fun e w' => ∃ v, e = .returned v ∧ Es L (fun b T => (Des b T ∧ b < w.heap.size) ∨ w.heap.size ≤ b) w' v (shL es) ∧ Ext w w' := by
 have hE : Below w.heap.size w w := Below.refl _ _
 have hes := hes0.old
 clear hes0
 have hlo : w.heap.size ≤ w.heap.size := Nat.le_refl _
 have hfl : (es.take 40).length ≤ 40 := by rw [List.length_take]; omega
 refine calls_of (n := 25) (rs := [.tmp 2]) func6 rfl rfl rfl bL ?_
 refine wset fun F0 hF0 => ?_
 refine wsr (aS (v := (.slice none (0) (0))) rfl (RL.nil (wsr (aS (v := (.slice none (0) (0))) rfl (RL.nil (wseq (wsr (mV (v := ves) (hF0 0) ?_))))))))
 refine cL (vl := [ves, (iv 40)]) ent25 (h_first (n := 40) hes dC) rfl ?_
 rintro vf3 w1 ⟨hr4, he2⟩
 replace hE := hE.nx he2
 obtain ⟨A5, c6, hv7, hc8, hc9⟩ := hr4.len
 refine rV (r_len uT22 hv7) (mV (v := (iv 0)) rfl (RL.nil ?_))
 refine wblock ?_
 refine wset fun F10 hF11 => ?_
 refine wloop (σ := Nat × Value) (fun (s : Nat × Value) fl wl => match s with | (k, vr) => Off (3 :: (5 :: (rg 9 15 []))) F10 fl ∧ fl 9 = (iv k) ∧ fl 3 = vr ∧ (k ≤ (es.take 40).length) ∧ (Oz L (fun b T => Des b T ∧ b < w.heap.size) wl w.heap.size 55 vr (((es.take 40).take k).map shE)) ∧ (Es L (fun b T => Des b T ∧ b < w.heap.size) wl ves es) ∧ (Below w.heap.size w wl) ∧ (Es L (fun b T => Des b T ∧ b < w.heap.size) wl vf3 (es.take 40))) (fun (s : Nat × Value) => match s with | (k, vr) => (es.take 40).length - k) (0, (.slice none 0 0)) ?_ ?_
 ·replace hes := hes.tr (Sm.ext he2)
  exact ⟨Off.refl _ _, (hF11 9).trans (rfl), (hF11 3).trans (rfl), Nat.zero_le _, Oz.nil, hes, hE, hr4⟩
 clear hes hE hr4
 rintro ⟨k, vr⟩ f12 w13 ⟨G14, hs15, hs16, hk, hR, hes, hE, hr4⟩
 refine wsr (rV (r_lss (k := .i64) (a := (k : Int)) (b := (((es.take 40).length : Nat) : Int)) hs15 ((G14 8 rfl).trans (hF11 8))) (RL.nil (wseq ?_)))
 refine wcD (p := (k : Int) < (((es.take 40).length : Nat) : Int)) rfl (fun hb17 hb17p => ?_) (fun hb17 hb17p => ?_)
 ·refine wskip ?_
  refine wseq ?_
  refine wblock ?_
  refine wsr ?_
  obtain ⟨b18, o19, c20, s25, A23, B24, x26, d27, hv21, hc22, hx28, lm29, ln30, hd31, lm32, ln33, eq34⟩ := hr4.ix (i := (k : Int)) (k) oM oM
  refine rV (r_indexAddr (i := (k : Int)) uT22 ty55 ((((G14 7 rfl).trans (hF11 7))).trans hv21) hs15 oM oM) (rV (r_loada (cs := [(iv (((es.take 40).getD (k) default).1)), (.bool s25), (sv A23), (sv B24)]) uT55 ag55 ty55 rfl hc22) ?_)
  refine rU (h_alloc (cs := [(iv 0), (.bool false), (.slice none 0 0), (.slice none 0 0)]) ty55 rfl) ?_
  rintro _ w35 ⟨b36, rfl, hs39, hb38, he37⟩
  have ge_b36 := hE.ge hs39
  have on_vr_b36 : vr.ownBlock ≠ some b36 := fun h => absurd (hR.lt _ h) (by rw [hs39]; exact Nat.lt_irrefl _)
  refine RL.runs rfl rfl (h_stA (cs := [(iv (((es.take 40).getD (k) default).1)), (.bool s25), (sv A23), (sv B24)]) (o := 0) ty55 rfl rfl rfl rfl (one_cons rfl (one_cons rfl (one_cons hx28.one (one_cons hd31.one one_nil)))) hb38 bL) ?_
  rintro w40 ⟨hn41, hx42, hz43⟩
  have nb_hx42 := (Nb.of hb38 (nu_cons rfl (nu_cons rfl (nu_cons rfl (nu_cons rfl nu_nil)))))
  replace hb38 : Bk w40 b36 55 [(iv (((es.take 40).getD (k) default).1)), (.bool s25), (sv A23), (sv B24)] := hn41
  refine RL.nil ?_
  have hskl : (((es.take 40).take k).map shE).length = k := by rw [List.length_map, List.length_take]; omega
  refine wdraw mixed fun w44 he45 => ?_
  replace hE := ((hE.nx he37).nb hx42 ge_b36).nx he45
  refine aM 0 rfl (v := vr) hs16 ?_
  refine ra 1 rfl (fun _ => r_fieldAddr uT55 rfl ty3 rfl) ?_
  replace hb38 := hb38.ext he45
  have hc46 := hb38.cell (j := 0) (u := (iv (((es.take 40).getD (k) default).1))) rfl
  refine aR 2 rfl (fun u hu => r_load uT3 ag3 rfl (cell_ext hu hc46)) ?_
  refine ra 5 rfl (fun _ => r_fieldAddr uT55 rfl ty44 rfl) ?_
  have hc47 := hb38.cells (o := 1) (cs := [(.bool s25), (sv A23), (sv B24)]) rfl
  refine aR 6 rfl (fun u hu => r_loada (o := 1) (cs := [(.bool s25), (sv A23), (sv B24)]) uT44 ag44 ty44 rfl (fun j v hj => cell_ext hu (hc47 j v hj))) ?_
  refine RA.all [3] kR rfl ?_
  refine cS ent26 (mod_spec _ oM oM) rfl rfl ?_ RS.nil
  rintro _ _ ⟨rfl, rfl⟩
  refine rm (Ext.refl _) ?_
  have hmr := modF_range ((es.take 40).getD (k) default).1 9 dC
  refine ra 4 rfl (fun _ => r_sub (k := .i64) (a := modF (((es.take 40).getD (k) default).1) 9) (b := 1) (c := (modF (((es.take 40).getD (k) default).1) 9) - 1) rfl rfl (wi64 oM)) ?_
  refine ra 7 rfl (fun _ => r_build (vl := [(0, (iv ((modF (((es.take 40).getD (k) default).1) 9) - 1))), (1, (.agg #[(.bool s25), (sv A23), (sv B24)]))]) (cs := [(iv ((modF (((es.take 40).getD (k) default).1) 9) - 1)), (.bool s25), (sv A23), (sv B24)]) uT55 ty55 rfl (pl55 uT55) rfl) ?_
  refine RA.all [8] kR rfl ?_
  refine RS.run rfl rfl rfl dC (h_lit (vl := [(0, (.agg #[(iv ((modF (((es.take 40).getD (k) default).1) 9) - 1)), (.bool s25), (sv A23), (sv B24)]))]) (cs := [(iv ((modF (((es.take 40).getD (k) default).1) 9) - 1)), (.bool s25), (sv A23), (sv B24)]) uT22 ty55 rfl dC (by first | (simp [Instr.fill, Value.cells]; done) | rfl | kernel_rfl)) ?_ RS.nil
  rintro _ w49 ⟨b50, rfl, hs53, hb52, he51⟩
  refine rm he51 ?_
  have lt_b36_b50 := Nat.lt_of_lt_of_eq hb38.lt hs53.symm
  have ge_b50 := hE.ge hs53
  replace hR := ((hR.ext he37).exo hx42 on_vr_b36 nb_hx42).ext he45
  replace hE := hE.nx he51
  refine RA.all [9] kR rfl ?_
  replace hR := hR.ext he51
  replace hx28 := ((hx28.tr (Sm.ext he37)).apn hx42 nb_hx42).tr (Sm.ext (Ext.trans he45 he51))
  replace hd31 := ((hd31.tr (Sm.ext he37)).apn hx42 nb_hx42).tr (Sm.ext (Ext.trans he45 he51))
  refine RS.run rfl rfl rfl dC (h_appendZ (v1 := vr) (v2 := (.slice (some ⟨b50, 0, none⟩) (1) (1))) (q := ((es.take 40).getD (k) default).2) uT22 ty55 rfl rfl rfl hR (hb52.sc (D := fun _ _ => True) trivial rfl dC) (Rz.of (L := L) hx28 lm29 oM hd31 lm32 oM (show ratOf s25 (val x26) (val d27) = ((es.take 40).getD (k) default).2 from eq34)) (fun b hb hd => absurd hd.2 (Nat.not_lt_of_le hb)) (by simp only [maxLen]; omega) oM hE.size) ?_ RS.nil
  rintro v55 w54 ⟨ho56, hg57⟩
  refine ⟨.inr (.inl kR), ?_⟩
  replace hE := hR.gbe hg57 hE hlo hE.size
  refine aA 10 rfl (v := v55) rfl ?_
  refine RA.done kR ?_
  refine wregion (rV (r_add (k := .i64) (a := (k : Int)) (b := 1) (c := (k : Int) + 1) hs15 rfl (wi64 oM)) (mV (v := (iv ((k : Int) + 1))) rfl (RL.nil ?_)))
  replace hes := (((hes.tr (Sm.ext he37)).tr (Sm.exc hx42 (fun _ _ _ _ hd => absurd hd.2 (Nat.not_lt_of_le ge_b36)))).tr (Sm.ext (Ext.trans he45 he51))).tr (hR.gsm hg57 (fun b hb hd => absurd hd.2 (Nat.not_lt_of_le (Nat.le_trans hlo hb))))
  replace hr4 := (((hr4.tr (Sm.ext he37)).tr (Sm.exc hx42 (fun _ _ _ _ hd => absurd hd.2 (Nat.not_lt_of_le ge_b36)))).tr (Sm.ext (Ext.trans he45 he51))).tr (hR.gsm hg57 (fun b hb hd => absurd hd.2 (Nat.not_lt_of_le (Nat.le_trans hlo hb))))
  refine ⟨(k + 1, v55), ⟨?_, ?_, ?_, ?_, ?_, ?_, ?_, ?_⟩, ?_⟩
  · exact (by repeat (first | exact G14 | refine Off.st ?_ dC _))
  · first | rfl | exact int_eq oM | exact bool_eq (by simp)
  · first | rfl | exact int_eq oM | exact bool_eq (by simp)
  · omega
  · rw [take_snoc (es.take 40) k oM, List.map_append]; exact ho56
  · exact hes
  · exact hE
  · exact hr4
  (try dsimp only)
  omega
 refine wexit ?_
 refine wseq ?_
 have hke : (es.take 40).take k = es.take 40 := List.take_of_length_le oM
 refine wregion (mV hs16 (aS (v := vr) rfl (RL.nil ?_)))
 refine wret ?_
 refine ⟨[vr], ⟨rfl, trivial⟩, ?_⟩
 have hR2 := hR
 rw [hke] at hR2
 exact ⟨hR2.rd (fun _ h => .inr h) (fun _ _ h => .inl h), hE⟩
end Go.Proofs.YtelbjmhhbeijkaaGreat
namespace Go.Proofs.YtelbjmhhbeijkaaGreat
open Go.Vg Go.RowKit _root_.Go.Proofs.Tryz
set_option linter.unusedVariables false
open Go.Vm
def IsP (p : List Int) : Prop := (∀ x ∈ p, 0 ≤ x ∧ x < (p.length : Int)) ∧ p.Nodup
theorem isp_no {p : List Int} {k : Nat} (hk : k < p.length) (h : ¬ (0 ≤ p.getD k default ∧ p.getD k default < (p.length : Int))) : ¬ IsP p := fun hp => h (hp.1 _ (getD_mem _ _ hk))
theorem isp_dup {p : List Int} {k : Nat} (hk : k < p.length) (h : p.getD k default ∈ p.take k) : ¬ IsP p := fun hp => by
  have h1 : (p.take (k + 1)).Nodup := List.Nodup.sublist (List.take_sublist _ _) hp.2
  rw [take_snoc p k hk, List.nodup_append] at h1
  exact h1.2.2 _ h _ (by simp) rfl
theorem seen_next {p : List Int} {sn : List Bool} {k n : Nat} (hk : k < p.length) (h0 : 0 ≤ p.getD k default) (h1 : p.getD k default < (n : Int)) (hn : sn.length = n) (hs : ∀ i, i < n → sn.getD i default = decide ((i : Int) ∈ p.take k)) : ∀ i, i < n → (sn.set (p.getD k default).toNat true).getD i default = decide ((i : Int) ∈ p.take (k + 1)) := fun i hi => by
  rw [take_snoc p k hk]
  by_cases h : (p.getD k default).toNat = i
  · have : (i : Int) = p.getD k default := by omega
    rw [decide_eq_true (by rw [this]; simp), h]
    simp [List.getD_eq_getElem?_getD, List.getElem?_set, hn, hi]
  have h2 : (i : Int) ≠ p.getD k default := by omega
  have e1 : (sn.set (p.getD k default).toNat true).getD i default = sn.getD i default := by
    generalize (p.getD k default).toNat = m at h
    simp [List.getD_eq_getElem?_getD, List.getElem?_set, h]
  rw [e1, hs i hi]
  simp only [List.mem_append, List.mem_singleton, h2, or_false]
set_option maxHeartbeats 1000000 in
theorem v_isp {w : World} {Dp : Nat → TypeId → Prop} {vp : Value} {p : List Int} (hp0 : Sg (gI .i64) Dp w vp p) (lnp : p.length ≤ 1048576) :
    Calls Tryz.prog 27 #[vp] w fun e w' => ∃ v, e = .returned v ∧ (∃ r : Bool, v = .bool r ∧ (r = true ↔ IsP p)) ∧ Ext w w' := by
 have hE : Below w.heap.size w w := Below.refl _ _
 have hp := hp0.old
 clear hp0
 refine calls_of (n := 33) (rs := [.tmp 2]) func27 rfl rfl rfl bL ?_
 refine wset fun F0 hF0 => ?_
 refine wsr (aS (v := (.bool false)) rfl (RL.nil (wsr (mV (v := vp) (hF0 0) ?_))))
 obtain ⟨A1, c2, hv3, hc4, hc5⟩ := hp.len
 refine rV (r_len uT23 hv3) ?_
 have hn11 : (((p.length : Nat) : Int) : Int) = ((p.length : Nat) : Int) := by omega
 refine rU (h_make1 (n := p.length) uT74 ty4 rfl (int_eq hn11) (int_eq hn11) oM oM) ?_
 rintro _ w6 ⟨b7, rfl, hs10, hb9, he8⟩
 have ge_b7 := hE.ge hs10
 replace hE := hE.nx he8
 replace hb9 := Af.made (g := gB) (z := false) hb9 rfl
 refine aS (v := (.slice (some ⟨b7, 0, none⟩) (p.length) (p.length))) rfl (RL.nil (wseq (wsr (mV (v := vp) (hF0 0) (rV (r_len uT23 hv3) (mV (v := (iv 0)) rfl (RL.nil ?_)))))))
 refine wblock ?_
 refine wset fun F12 hF13 => ?_
 refine wloop (σ := Nat × List Bool) (fun (s : Nat × List Bool) fl wl => match s with | (k, sn) => Off (2 :: (5 :: (rg 11 22 []))) F12 fl ∧ fl 11 = (iv k) ∧ (k ≤ p.length) ∧ (∀ x ∈ p.take k, 0 ≤ x ∧ x < (p.length : Int)) ∧ ((p.take k).Nodup) ∧ (∀ i, i < p.length → sn.getD i default = decide ((i : Int) ∈ p.take k)) ∧ (sn.length = p.length) ∧ (Af (gB) wl b7 4 sn p.length) ∧ (Sg (gI .i64) (fun b T => Dp b T ∧ b < w.heap.size) wl vp p) ∧ (Below w.heap.size w wl)) (fun (s : Nat × List Bool) => match s with | (k, sn) => p.length - k) (0, List.replicate p.length false) ?_ ?_
 ·replace hp := hp.tr (Sm.ext he8)
  exact ⟨Off.refl _ _, (hF13 11).trans (rfl), Nat.zero_le _, (fun x hx => by simp at hx), by simp, (fun i hi => by simp [List.getD_eq_getElem?_getD, hi]), by simp, hb9, hp, hE⟩
 clear hp hE hb9
 rintro ⟨k, sn⟩ f14 w15 ⟨G16, hs17, hk, hr, hnd, hs, hsl, hb9, hp, hE⟩
 refine wsr (rV (r_lss (k := .i64) (a := (k : Int)) (b := ((p.length : Nat) : Int)) hs17 ((G16 10 rfl).trans (hF13 10))) (RL.nil (wseq ?_)))
 refine wcD (p := (k : Int) < ((p.length : Nat) : Int)) rfl (fun hb18 hb18p => ?_) (fun hb18 hb18p => ?_)
 ·refine wskip ?_
  refine wseq ?_
  refine wblock ?_
  refine wseq ?_
  have hkl : k < p.length := by omega
  refine wregion ?_
  obtain ⟨b19, o20, c21, hv22, hc23⟩ := hp.ix (i := (k : Int)) (k) oM oM
  refine rV (r_indexAddr (i := (k : Int)) uT23 ty3 ((((G16 9 rfl).trans (hF13 9))).trans hv22) hs17 oM oM) (rV (r_load (v := (iv (p.getD (k) default))) uT3 ag3 rfl hc23) (aS (v := (iv (p.getD (k) default))) rfl (RL.nil (wseq (wsr (mV (v := (iv (p.getD (k) default))) rfl (rV (r_lss (k := .i64) (a := p.getD (k) default) (b := 0) rfl rfl) (mV (v := (bd ((p.getD (k) default) < 0))) rfl ?_))))))))
  rcases bD ((p.getD (k) default) < 0) with ⟨hb24, hb24p⟩ | ⟨hb24, hb24p⟩
  ·have hbad := hb24p
   refine RL.gno rfl rfl (bool_eq hb24) rfl dC ?_
   refine RL.gno rfl rfl (bool_eq hb24) rfl dC ?_
   refine RL.gno rfl rfl (bool_eq hb24) rfl dC ?_
   refine RL.gno rfl rfl (bool_eq hb24) rfl dC ?_
   refine rV (r_pick_t (v := (.bool true)) (bool_eq hb24) rfl) (mV (v := (.bool true)) rfl ?_)
   refine RL.gno rfl rfl rfl rfl dC ?_
   refine RL.gno rfl rfl rfl rfl dC ?_
   refine RL.gno rfl rfl rfl rfl dC ?_
   refine RL.gno rfl rfl rfl rfl dC ?_
   refine rV (r_pick_t (v := (.bool true)) rfl rfl) (RL.nil ?_)
   refine wcond_t rfl ?_
   refine wsr (aS (v := (.bool false)) rfl (RL.nil ?_))
   refine wret ?_
   refine ⟨[(.bool false)], ⟨rfl, trivial⟩, ?_⟩
   exact ⟨⟨_, rfl, (fun h => by cases h), fun h => absurd h (by first | exact isp_dup hkl hin | exact isp_no hkl oM)⟩, hE⟩
  have hlow := hb24p
  refine RL.gval rfl rfl (bool_eq hb24) rfl dC (r_move_as (v := (iv (p.getD (k) default))) rfl) ?_
  refine RL.gval rfl rfl (bool_eq hb24) rfl dC (r_move_as (v := vp) ((G16 0 rfl).trans ((hF13 0).trans (hF0 0)))) ?_
  refine RL.gval rfl rfl (bool_eq hb24) rfl dC (r_len uT23 hv3) ?_
  refine RL.gval rfl rfl (bool_eq hb24) rfl dC (r_geq (k := .i64) (a := p.getD (k) default) (b := ((p.length : Nat) : Int)) rfl rfl) ?_
  refine rV (r_pick_f (v := (bd (((p.length : Nat) : Int) ≤ (p.getD (k) default)))) (bool_eq hb24) rfl) (mV (v := (bd (((p.length : Nat) : Int) ≤ (p.getD (k) default)))) rfl ?_)
  rcases bD (((p.length : Nat) : Int) ≤ (p.getD (k) default)) with ⟨hb25, hb25p⟩ | ⟨hb25, hb25p⟩
  ·have hbad := hb25p
   refine RL.gno rfl rfl (bool_eq hb25) rfl dC ?_
   refine RL.gno rfl rfl (bool_eq hb25) rfl dC ?_
   refine RL.gno rfl rfl (bool_eq hb25) rfl dC ?_
   refine RL.gno rfl rfl (bool_eq hb25) rfl dC ?_
   refine rV (r_pick_t (v := (.bool true)) (bool_eq hb25) rfl) (RL.nil ?_)
   refine wcond_t rfl ?_
   refine wsr (aS (v := (.bool false)) rfl (RL.nil ?_))
   refine wret ?_
   refine ⟨[(.bool false)], ⟨rfl, trivial⟩, ?_⟩
   exact ⟨⟨_, rfl, (fun h => by cases h), fun h => absurd h (by first | exact isp_dup hkl hin | exact isp_no hkl oM)⟩, hE⟩
  have hhigh := hb25p
  refine RL.gval rfl rfl (bool_eq hb25) rfl dC (r_move_as (v := (.slice (some ⟨b7, 0, none⟩) (p.length) (p.length))) ((G16 3 rfl).trans (hF13 3))) ?_
  refine RL.gval rfl rfl (bool_eq hb25) rfl dC (r_move_as (v := (iv (p.getD (k) default))) rfl) ?_
  refine RL.gval rfl rfl (bool_eq hb25) rfl dC (r_indexAddr (i := p.getD (k) default) uT74 ty4 rfl rfl oM oM) ?_
  have hc26 := hb9.cell (i := p.getD (k) default) ((p.getD (k) default).toNat) oM oM
  refine RL.gval rfl rfl (bool_eq hb25) rfl dC (r_load (v := (.bool (sn.getD ((p.getD (k) default).toNat) default))) uT4 ag4 rfl hc26) ?_
  refine rV (r_pick_f (v := (.bool (sn.getD ((p.getD (k) default).toNat) default))) (bool_eq hb25) rfl) (RL.nil ?_)
  refine wcond (b := sn.getD ((p.getD (k) default).toNat) default) rfl (fun hb27 => ?_) (fun hb27 => ?_)
  ·have hb27p := hb27
   have hsk := hb27p
   rw [hs _ oM] at hsk
   have hin := of_decide_eq_true hsk
   rw [show (((p.getD (k) default).toNat : Nat) : Int) = p.getD k default by omega] at hin
   refine wsr (aS (v := (.bool false)) rfl (RL.nil ?_))
   refine wret ?_
   refine ⟨[(.bool false)], ⟨rfl, trivial⟩, ?_⟩
   exact ⟨⟨_, rfl, (fun h => by cases h), fun h => absurd h (by first | exact isp_dup hkl hin | exact isp_no hkl oM)⟩, hE⟩
  have hb27p := hb27
  have hsk := hb27p
  rw [hs _ oM] at hsk
  have hni := of_decide_eq_false hsk
  rw [show (((p.getD (k) default).toNat : Nat) : Int) = p.getD k default by omega] at hni
  refine wskip ?_
  refine wregion (mV (v := (.slice (some ⟨b7, 0, none⟩) (p.length) (p.length))) ((G16 3 rfl).trans (hF13 3)) (mV (v := (iv (p.getD (k) default))) rfl (rV (r_indexAddr (i := p.getD (k) default) uT74 ty4 rfl rfl oM oM) ?_)))
  refine RL.runs rfl rfl (h_setF (g := gB) (vv := (.bool true)) (u := true) (i := p.getD (k) default) ty4 rfl rfl rfl rfl rfl hb9 ((p.getD (k) default).toNat) oM oM) ?_
  rintro w28 ⟨ha29, hx30⟩
  replace hE := hE.nb hx30 ge_b7
  replace hb9 := ha29
  refine RL.nil (wregion (rV (r_add (k := .i64) (a := (k : Int)) (b := 1) (c := (k : Int) + 1) hs17 rfl (wi64 oM)) (mV (v := (iv ((k : Int) + 1))) rfl (RL.nil ?_))))
  replace hp := hp.tr (Sm.exc hx30 (fun _ _ _ _ hd => absurd hd.2 (Nat.not_lt_of_le ge_b7)))
  refine ⟨(k + 1, sn.set (p.getD (k) default).toNat true), ⟨?_, ?_, ?_, ?_, ?_, ?_, ?_, ?_, ?_, ?_⟩, ?_⟩
  · exact (by repeat (first | exact G16 | refine Off.st ?_ dC _))
  · first | rfl | exact int_eq oM | exact bool_eq (by simp)
  · omega
  · rw [take_snoc p k hkl]; intro x hx; rcases List.mem_append.1 hx with h | h; exact hr x h; rw [List.mem_singleton.1 h]; exact ⟨by omega, by omega⟩
  · rw [take_snoc p k hkl, List.nodup_append]; exact ⟨hnd, by simp, fun a ha b hb => by rw [List.mem_singleton.1 hb]; exact fun he => hni (he ▸ ha)⟩
  · exact seen_next hkl oM oM hsl hs
  · rw [List.length_set]; exact hsl
  · exact hb9
  · exact hp
  · exact hE
  (try dsimp only)
  omega
 refine wexit ?_
 refine wsr (aS (v := (.bool true)) rfl (RL.nil ?_))
 refine wret ?_
 refine ⟨[(.bool true)], ⟨rfl, trivial⟩, ?_⟩
 rw [List.take_of_length_le oM] at hr hnd
 exact ⟨⟨_, rfl, (fun _ => ⟨hr, hnd⟩), fun _ => rfl⟩, hE⟩
end Go.Proofs.YtelbjmhhbeijkaaGreat
namespace Go.Proofs.YtelbjmhhbeijkaaGreat
open Go.Vg Go.RowKit Go.Shelf _root_.Go.Proofs.Tryz
def rhoL : Ren := ⟨fun n => if n = 125 then 51 else if n = 128 then 79 else if n = 129 then 80 else 0, fun n => if n = 3 then 3 else if n = 4 then 4 else if n = 5 then 5 else if n = 9 then 9 else if n = 46 then 77 else if n = 51 then 89 else if n = 53 then 73 else 0, fun x => x⟩
theorem lays125 : Lays.n125 Tryz.prog rhoL := by
  constructor <;> first | kernel_rfl | (intro w; kernel_rfl)
theorem len_spec {x : Int} (w : World) (h0 : 0 ≤ x) (h1 : x ≤ 18446744073709551615) : Calls Tryz.prog 51 #[.int .u64 x] w fun e w' => ∃ v, e = .returned v ∧ (∃ s : Nat, v = .int .i64 (s : Int)) ∧ w = w' := by
  refine (Any.bits_Len lays125 x w h0 h1).mono ?_
  rintro e w' ⟨rfl, rfl⟩
  exact ⟨_, rfl, ⟨_, rfl⟩, rfl⟩
end Go.Proofs.YtelbjmhhbeijkaaGreat
namespace Go.Proofs.YtelbjmhhbeijkaaGreat
open Go.Vg Go.RowKit _root_.Go.Proofs.Tryz
set_option linter.unusedVariables false
open Go.Vm
set_option maxHeartbeats 1000000 in
theorem pdq_ent {post : List Value} {b n cap : Nat} {xs : List EC} {w : World} {kc : Nat} {cl : List Value} {key : EC → Int} {ok : EC → Prop} {w0 : World} (hent : Ent Tryz.prog kc) (hcmp : CmpOk Tryz.prog kc cl encE key ok b w0) (hw0 : Exc b w0 w) {lim : Int} (ha : Ae post w b 55 xs n) (hsz : n ≤ 4611686018427387903) (hok : ∀ x ∈ xs, ok x) (h12 : n ≤ 12) :
    Calls Tryz.prog 50 #[(.slice (some ⟨b, 0, none⟩) (n) (cap)), (iv 0), (iv n), (iv lim), (.func (.func kc) #[] cl.toArray)] w fun e w' => ∃ v, e = .returned v ∧ v = .tuple #[] ∧ (∃ l, Ae post w' b 55 l n ∧ Srt key l ∧ StE key xs l) ∧ Exc b w w' := by
 have hE : Exc b w w := Exc.of_ext (Ext.refl _)
 refine calls_of (n := 148) (rs := []) func50 rfl rfl rfl bL ?_
 refine wset fun F0 hF0 => ?_
 refine wsr (aS (v := (.bool true)) rfl (RL.nil (wsr (aS (v := (.bool true)) rfl (RL.nil ?_)))))
 refine wblock ?_
 refine wset fun F1 hF2 => ?_
 refine wloop (σ := Nat) (fun (z : Nat) fl wl => Off (rg 1 3 (rg 10 138 [])) F1 fl ∧ fl 1 = (iv 0) ∧ fl 2 = (iv n) ∧ fl 10 = (.bool true) ∧ fl 11 = (.bool true) ∧ (Ae post wl b 55 xs n) ∧ (Exc b w wl)) (fun (z : Nat) => z) (0) ?_ ?_
 ·exact ⟨Off.refl _ _, (hF2 1).trans (((hF0 1)).trans rfl), (hF2 2).trans (((hF0 2)).trans rfl), (hF2 10).trans (rfl), (hF2 11).trans (rfl), ha, hE⟩
 clear ha hE
 rintro z f3 w4 ⟨G5, hs6, hs7, hs8, hs9, ha, hE⟩
 refine wblock ?_
 refine wsr (mV hs7 (mV hs6 (rV (r_sub (k := .i64) (a := (n : Int)) (b := 0) (c := (n : Int)) rfl rfl ((wi64 oM).trans oM)) (aS (v := (iv n)) rfl (RL.nil (wseq (wsr (mV (v := (iv n)) rfl (rV (r_leq (k := .i64) (a := (n : Int)) (b := 12) rfl rfl) (RL.nil ?_))))))))))
 refine wcD (p := (n : Int) ≤ 12) rfl (fun hb10 hb10p => ?_) (fun hb10 hb10p => ?_)
 ·refine wsr ?_
  refine mV (v := (.slice (some ⟨b, 0, none⟩) (n) (cap))) ((G5 0 rfl).trans ((hF2 0).trans (hF0 0))) (mV hs6 (mV hs7 (mV (v := (.func (.func kc) #[] cl.toArray)) ((G5 4 rfl).trans ((hF2 4).trans (hF0 4))) ?_)))
  refine RL.call rfl rfl dC (r_call (vl := [(.slice (some ⟨b, 0, none⟩) (n) (cap)), (iv 0), (iv n), (.func (.func kc) #[] cl.toArray)]) ent71 rfl) (insertion_ent (LA := []) (LS := xs) (LB := []) (a := 0) (c := n) hent hcmp (hw0.trans hE) ha hsz (by simp) rfl (by have := ha.len; omega) hok) ?_
  rintro _ w11 ⟨rfl, ⟨M0, ha12, hs0, ht0⟩, hx13⟩
  replace hE := hE.trans hx13
  replace ha := ha12
  refine RL.nil ?_
  refine wret ?_
  refine ⟨[], trivial, ?_⟩
  exact ⟨rfl, ⟨M0, by simpa using ha, hs0, ht0⟩, hE⟩
 exact absurd hb10p oM
set_option maxHeartbeats 1000000 in
theorem sort_ent {post : List Value} {b n cap : Nat} {xs : List EC} {w : World} {kc : Nat} {cl : List Value} {key : EC → Int} {ok : EC → Prop} {w0 : World} (hent : Ent Tryz.prog kc) (hcmp : CmpOk Tryz.prog kc cl encE key ok b w0) (hw0 : Exc b w0 w) (ha : Ae post w b 55 xs n) (hsz : n ≤ 4611686018427387903) (hok : ∀ x ∈ xs, ok x) (h12 : n ≤ 12) :
    Calls Tryz.prog 29 #[(.slice (some ⟨b, 0, none⟩) (n) (cap)), (.func (.func kc) #[] cl.toArray)] w fun e w' => ∃ v, e = .returned v ∧ v = .tuple #[] ∧ (∃ l, Ae post w' b 55 l n ∧ Srt key l ∧ StE key xs l) ∧ Exc b w w' := by
 have hE : Exc b w w := Exc.of_ext (Ext.refl _)
 refine calls_of (n := 14) (rs := []) func29 rfl rfl rfl bL ?_
 refine wset fun F0 hF0 => ?_
 refine wsr (mV (v := (.slice (some ⟨b, 0, none⟩) (n) (cap))) (hF0 0) (rV (r_len uT22 rfl) (aS (v := (iv n)) rfl (RL.nil (wregion (mV (v := (.slice (some ⟨b, 0, none⟩) (n) (cap))) (hF0 0) (mV (v := (iv n)) rfl (mV (v := (iv n)) rfl (rV (r_conv (k := .u64) (a := (n : Int)) (c := (n : Int)) uT3 uT77 rfl (wu64 oM)) ?_)))))))))
 refine cL ent51 (len_spec (x := (n : Int)) _ oM oM) rfl ?_
 rintro _ _ ⟨⟨lm, rfl⟩, rfl⟩
 refine mV (v := (.func (.func kc) #[] cl.toArray)) (hF0 1) ?_
 refine RL.call rfl rfl dC (r_call (vl := [(.slice (some ⟨b, 0, none⟩) (n) (cap)), (iv 0), (iv n), (iv lm), (.func (.func kc) #[] cl.toArray)]) ent50 rfl) (pdq_ent hent hcmp hw0 ha hsz hok h12) ?_
 rintro _ w2 ⟨rfl, hl, hx⟩
 refine RL.nil ?_
 refine ⟨[], trivial, ?_⟩
 exact ⟨rfl, hl, hx⟩
end Go.Proofs.YtelbjmhhbeijkaaGreat
namespace Go.Proofs.YtelbjmhhbeijkaaGreat
open Go.Vg Go.RowKit _root_.Go.Proofs.Tryz
set_option linter.unusedVariables false
open Go.Vm
def pmL (p : List Int) (es : List Ent') : List Ent' := es.map fun e => (p.getD e.1.toNat default, e.2)
theorem get_mem {es : List En} (ha : Asc es) {e : En} (he : e ∈ es) : get es e.1 = e.2 := by
  induction es with
  | nil => cases he
  | cons x es ih =>
    rcases List.mem_cons.1 he with rfl | h
    · exact get_head ha
    rw [get_cons_ne (by have := ha.head e h; omega)]; exact ih ha.tail h
theorem pm_at {p : List Int} {rs cs : List Ent'} {k : Nat} (hk : k < rs.length) (hcs : cs = pmL p (rs.take k) ++ rs.drop k) : cs.getD k default = rs.getD k default := by
  have hl : (pmL p (rs.take k)).length = k := by unfold pmL; rw [List.length_map, List.length_take]; omega
  rw [hcs, List.getD_eq_getElem?_getD, List.getElem?_append_right oM, hl, Nat.sub_self, List.getElem?_drop, Nat.add_zero, ← List.getD_eq_getElem?_getD]
theorem pm_step {p : List Int} {rs cs : List Ent'} {k : Nat} (hk : k < rs.length) (hcs : cs = pmL p (rs.take k) ++ rs.drop k) : cs.set k (p.getD (rs.getD k default).1.toNat default, (rs.getD k default).2) = pmL p (rs.take (k + 1)) ++ rs.drop (k + 1) := by
  have hl : (pmL p (rs.take k)).length = k := by unfold pmL; rw [List.length_map, List.length_take]; omega
  rw [hcs, take_snoc rs k hk, drop_cons rs k hk, List.set_append_right _ _ oM, hl, Nat.sub_self]
  unfold pmL
  simp
theorem wk_asc {S : List En} (hw : Wk S) (hn : (S.map Prod.fst).Nodup) : Asc S := by
  have h2 : S.Pairwise fun a b => a.1 ≠ b.1 := List.pairwise_map.1 hn
  exact (hw.and h2).imp fun ⟨h1, h2⟩ => by omega
theorem pm_fin {p : List Int} {rs S : List Ent'} (hp : IsP p) (ha : Asc rs) (hz : NonZ rs) (hin : ∀ e ∈ rs, 0 ≤ e.1 ∧ e.1 < (p.length : Int)) (hpm : (pmL p rs).Perm S) (hw : Wk S) : Asc S ∧ NonZ S := by
  constructor
  · refine wk_asc hw ?_
    refine (hpm.map Prod.fst).nodup_iff.1 ?_
    unfold pmL
    rw [List.map_map]
    refine List.pairwise_map.2 ?_
    refine (List.Pairwise.and_mem.1 ha).imp fun {a b} ⟨h1, h2, h3⟩ he => ?_
    have hp2 := List.pairwise_iff_getElem.1 hp.2
    have a1 := hin a h1
    have b1 := hin b h2
    have := hp2 a.1.toNat b.1.toNat oM oM oM
    apply this
    have he' : p.getD a.1.toNat default = p.getD b.1.toNat default := he
    rw [List.getD_eq_getElem?_getD, List.getD_eq_getElem?_getD, List.getElem?_eq_getElem oM, List.getElem?_eq_getElem oM] at he'
    exact he'
  intro e he
  have := hpm.mem_iff.2 he
  unfold pmL at this
  obtain ⟨x, hx, rfl⟩ := List.mem_map.1 this
  exact hz x hx
set_option maxHeartbeats 4000000 in
theorem v_permute {w : World} {L : Nat} {Dx : Nat → TypeId → Prop} {vx : Value} {x : List Ent'} (hx0 : Es L Dx w vx x) {M : Nat} (hfx : (Asc x ∧ L ≤ M) ∨ (x.length + 1) * (L + 3) ≤ M) (hlx : x.length ≤ 524288) (hM : M ≤ 8589934000) {Dp : Nat → TypeId → Prop} {vp : Value} {p : List Int} (hp0 : Sg (gI .i64) Dp w vp p) (lnp : p.length ≤ 1048576) (h12 : ∀ r : List Ent', Asc r → NonZ r → (∀ i, get r i = get x i) → r.length ≤ 12) :
    Calls Tryz.prog 11 #[vx, vp] w fun e w' => ∃ v, e = .returned v ∧ (∃ vr ok, v = .tuple #[vr, .bool ok] ∧ ((ok = false ∧ vr = .slice none 0 0 ∧ ¬ (IsP p ∧ ∀ i, get x i ≠ 0 → 0 ≤ i ∧ i < (p.length : Int))) ∨ (ok = true ∧ (IsP p ∧ ∀ i, get x i ≠ 0 → 0 ≤ i ∧ i < (p.length : Int)) ∧ ∃ r0 rs, Ec (M + 1) (fun b _ => w.heap.size ≤ b) w' vr rs ∧ Asc rs ∧ NonZ rs ∧ (∀ i, get rs i = get (pmL p r0) i) ∧ Asc r0 ∧ NonZ r0 ∧ ∀ i, get r0 i = get x i))) ∧ Ext w w' := by
 have hE : Below w.heap.size w w := Below.refl _ _
 have hx := hx0.old
 clear hx0
 have hp := hp0.old
 clear hp0
 refine calls_of (n := 44) (rs := [.tmp 4, .tmp 5]) func11 rfl rfl rfl bL ?_
 refine wset fun F0 hF0 => ?_
 refine wsr (aS (v := (.slice none (0) (0))) rfl (aS (v := (.bool false)) rfl (RL.nil (wseq (wsr (mV (v := vp) (hF0 1) ?_))))))
 refine cL ent27 (v_isp hp oM) rfl ?_
 rintro _ w1 ⟨⟨r, rfl, hisp⟩, he2⟩
 replace hE := hE.nx he2
 refine rV (r_not rfl) (RL.nil ?_)
 refine wcond (b := !r) rfl (fun hb3 => ?_) (fun hb3 => ?_)
 ·have hb3p := hb3
  have hr0 : r = false := by simpa using hb3
  refine wsr (aS (v := (.slice none (0) (0))) rfl (aS (v := (.bool false)) rfl (RL.nil ?_)))
  refine wret ?_
  refine ⟨[(.slice none (0) (0)), (.bool false)], ⟨rfl, ⟨rfl, trivial⟩⟩, ?_⟩
  exact ⟨⟨_, _, rfl, .inl ⟨rfl, rfl, fun h => by first | exact absurd (hisp.2 h.1) (by rw [hr0]; decide) | exact hout h⟩⟩, hE⟩
 have hb3p := hb3
 have hip : IsP p := hisp.1 (by simpa using hb3)
 refine wskip ?_
 refine wsr (mV (v := vx) (hF0 0) ?_)
 replace hx := hx.tr (Sm.ext he2)
 refine cL ent28 (v_norm (x := x) (L := L) (M := M) hx hfx oM oM) rfl ?_
 rintro vn6 w4 ⟨⟨rs7, ho8, ha9, hz10, hg11, hl12, hw13⟩, he5⟩
 replace ho8 := Oe.fr (D' := (fun b T => w.heap.size ≤ b ∧ T = 89)) (lo' := w.heap.size) ho8 hE.size (fun _ _ h => ⟨Nat.le_trans hE.size h.1, h.2⟩)
 replace hE := hE.nx he5
 refine aS (v := vn6) rfl (RL.nil (wseq (wseq ?_)))
 obtain ⟨bC, capC, hvC, ge_bC, hc1, hc2, hap⟩ := ho8.ap2 hw13
 subst hvC
 refine wregion (mV (v := (.slice (some ⟨bC, 0, none⟩) (rs7.length) (capC))) rfl (rV (r_len uT22 rfl) (mV (v := (iv 0)) rfl (RL.nil ?_))))
 refine wblock ?_
 refine wset fun F14 hF15 => ?_
 refine wloop (σ := Nat × List Ent') (fun (s : Nat × List Ent') fl wl => match s with | (k, cs) => Off (rg 4 2 (rg 7 2 (rg 16 25 []))) F14 fl ∧ fl 16 = (iv k) ∧ (k ≤ rs7.length) ∧ (cs = pmL p (rs7.take k) ++ rs7.drop k) ∧ (∀ e ∈ rs7.take k, 0 ≤ e.1 ∧ e.1 < (p.length : Int)) ∧ (Ap (M + 1) (fun b T => w.heap.size ≤ b ∧ T = 89) wl bC 55 cs rs7.length) ∧ (Es L (fun b T => Dx b T ∧ b < w.heap.size) wl vx x) ∧ (Below w.heap.size w wl) ∧ (Sg (gI .i64) (fun b T => Dp b T ∧ b < w.heap.size) wl vp p)) (fun (s : Nat × List Ent') => match s with | (k, cs) => rs7.length - k) (0, rs7) ?_ ?_
 ·replace hx := hx.tr (Sm.ext he5)
  replace hp := hp.tr (Sm.ext (Ext.trans he2 he5))
  exact ⟨Off.refl _ _, (hF15 16).trans (rfl), Nat.zero_le _, (by simp [pmL]), (fun e he => by simp at he), hap, hx, hE, hp⟩
 clear hx hE hp hap
 rintro ⟨k, cs⟩ f16 w17 ⟨G18, hs19, hk, hcs, hin, hap, hx, hE, hp⟩
 refine wsr (rV (r_lss (k := .i64) (a := (k : Int)) (b := ((rs7.length : Nat) : Int)) hs19 ((G18 15 rfl).trans (hF15 15))) (RL.nil (wseq ?_)))
 refine wcD (p := (k : Int) < ((rs7.length : Nat) : Int)) rfl (fun hb20 hb20p => ?_) (fun hb20 hb20p => ?_)
 ·refine wskip ?_
  refine wseq ?_
  refine wblock ?_
  refine wseq ?_
  have hkl : k < rs7.length := by omega
  have hck := pm_at hkl hcs
  refine wregion (mV hs19 (rV (r_indexAddr (i := (k : Int)) uT22 ty55 ((G18 14 rfl).trans (hF15 14)) hs19 oM oM) ?_))
  obtain ⟨A22, B23, hc21, hx24, hd25, ln26, ln27⟩ := hap.ix (i := (k : Int)) (k) oM oM
  refine rV (r_loada (cs := [(iv ((cs.getD (k) default).1)), (bd ((cs.getD (k) default).2.num < 0)), (sv A22), (sv B23)]) uT55 ag55 ty55 rfl hc21) ?_
  refine rU (h_alloc (cs := [(iv 0), (.bool false), (.slice none 0 0), (.slice none 0 0)]) ty55 rfl) ?_
  rintro _ w28 ⟨b29, rfl, hs32, hb31, he30⟩
  have lt_bC_b29 := Nat.lt_of_lt_of_eq hap.lt hs32.symm
  have ge_b29 := hE.ge hs32
  refine aS (v := (iv k)) rfl ?_
  refine RL.runs rfl rfl (h_stA (cs := [(iv ((cs.getD (k) default).1)), (bd ((cs.getD (k) default).2.num < 0)), (sv A22), (sv B23)]) (o := 0) ty55 rfl rfl rfl rfl (one_cons rfl (one_cons rfl (one_cons hx24.one (one_cons hd25.one one_nil)))) hb31 bL) ?_
  rintro w33 ⟨hn34, hx35, hz36⟩
  replace hE := (hE.nx he30).nb hx35 ge_b29
  have nb_hx35 := (Nb.of hb31 (nu_cons rfl (nu_cons rfl (nu_cons rfl (nu_cons rfl nu_nil)))))
  replace hb31 : Bk w33 b29 55 [(iv ((cs.getD (k) default).1)), (bd ((cs.getD (k) default).2.num < 0)), (sv A22), (sv B23)] := hn34
  refine RL.nil (wseq (wsr (rV (r_fieldAddr uT55 rfl ty3 rfl) ?_)))
  have hc37 := hb31.cell (j := 0) (u := (iv ((cs.getD (k) default).1))) rfl
  refine rV (r_load uT3 ag3 rfl hc37) (rV (r_lss (k := .i64) (a := (cs.getD (k) default).1) (b := 0) rfl rfl) (mV (v := (bd (((cs.getD (k) default).1) < 0))) rfl ?_))
  rcases bD (((cs.getD (k) default).1) < 0) with ⟨hb38, hb38p⟩ | ⟨hb38, hb38p⟩
  ·have hbad := hb38p
   refine RL.gno rfl rfl (bool_eq hb38) rfl dC ?_
   refine RL.gno rfl rfl (bool_eq hb38) rfl dC ?_
   refine RL.gno rfl rfl (bool_eq hb38) rfl dC ?_
   refine RL.gno rfl rfl (bool_eq hb38) rfl dC ?_
   refine RL.gno rfl rfl (bool_eq hb38) rfl dC ?_
   refine rV (r_pick_t (v := (.bool true)) (bool_eq hb38) rfl) (RL.nil ?_)
   refine wcond_t rfl ?_
   refine wseq ?_
   have hout : ¬ (IsP p ∧ ∀ i, get x i ≠ 0 → 0 ≤ i ∧ i < (p.length : Int)) := fun h => by
     have h1 := hg11 (rs7.getD k default).1
     rw [get_mem ha9 (getD_mem _ _ hkl)] at h1
     have h2 := h.2 (rs7.getD k default).1 (by rw [← h1]; exact hz10 _ (getD_mem _ _ hkl))
     rw [← hck] at h2
     first | omega | (have h3 := h2.1; have h4 := h2.2; omega)
   refine wregion (aS (v := (.slice none (0) (0))) rfl (aS (v := (.bool false)) rfl (RL.nil ?_)))
   refine wret ?_
   refine ⟨[(.slice none (0) (0)), (.bool false)], ⟨rfl, ⟨rfl, trivial⟩⟩, ?_⟩
   exact ⟨⟨_, _, rfl, .inl ⟨rfl, rfl, fun h => by first | exact absurd (hisp.2 h.1) (by rw [hr0]; decide) | exact hout h⟩⟩, hE⟩
  have hlow := hb38p
  refine RL.gval rfl rfl (bool_eq hb38) rfl dC (r_fieldAddr uT55 rfl ty3 rfl) ?_
  have hc39 := hb31.cell (j := 0) (u := (iv ((cs.getD (k) default).1))) rfl
  refine RL.gval rfl rfl (bool_eq hb38) rfl dC (r_load uT3 ag3 rfl hc39) ?_
  refine RL.gval rfl rfl (bool_eq hb38) rfl dC (r_move_as (v := vp) ((G18 1 rfl).trans ((hF15 1).trans (hF0 1)))) ?_
  obtain ⟨A40, c41, hv42, hc43, hc44⟩ := hp.len
  refine RL.gval rfl rfl (bool_eq hb38) rfl dC (r_len uT23 hv42) ?_
  refine RL.gval rfl rfl (bool_eq hb38) rfl dC (r_geq (k := .i64) (a := (cs.getD (k) default).1) (b := ((p.length : Nat) : Int)) rfl rfl) ?_
  refine rV (r_pick_f (v := (bd (((p.length : Nat) : Int) ≤ ((cs.getD (k) default).1)))) (bool_eq hb38) rfl) (RL.nil ?_)
  refine wcD (p := ((p.length : Nat) : Int) ≤ ((cs.getD (k) default).1)) rfl (fun hb45 hb45p => ?_) (fun hb45 hb45p => ?_)
  ·refine wseq ?_
   have hout : ¬ (IsP p ∧ ∀ i, get x i ≠ 0 → 0 ≤ i ∧ i < (p.length : Int)) := fun h => by
     have h1 := hg11 (rs7.getD k default).1
     rw [get_mem ha9 (getD_mem _ _ hkl)] at h1
     have h2 := h.2 (rs7.getD k default).1 (by rw [← h1]; exact hz10 _ (getD_mem _ _ hkl))
     rw [← hck] at h2
     first | omega | (have h3 := h2.1; have h4 := h2.2; omega)
   refine wregion (aS (v := (.slice none (0) (0))) rfl (aS (v := (.bool false)) rfl (RL.nil ?_)))
   refine wret ?_
   refine ⟨[(.slice none (0) (0)), (.bool false)], ⟨rfl, ⟨rfl, trivial⟩⟩, ?_⟩
   exact ⟨⟨_, _, rfl, .inl ⟨rfl, rfl, fun h => by first | exact absurd (hisp.2 h.1) (by rw [hr0]; decide) | exact hout h⟩⟩, hE⟩
  have hhigh := hb45p
  refine wskip ?_
  refine wregion (mV (v := (.slice (some ⟨bC, 0, none⟩) (rs7.length) (capC))) ((G18 6 rfl).trans (hF15 6)) (mV (v := (iv k)) rfl (mV (v := vp) ((G18 1 rfl).trans ((hF15 1).trans (hF0 1))) (rV (r_fieldAddr uT55 rfl ty3 rfl) ?_))))
  have hc46 := hb31.cell (j := 0) (u := (iv ((cs.getD (k) default).1))) rfl
  refine rV (r_load uT3 ag3 rfl hc46) ?_
  replace hp := (hp.tr (Sm.ext he30)).tr (Sm.exc hx35 (fun _ _ _ _ hd => absurd hd.2 (Nat.not_lt_of_le ge_b29)))
  obtain ⟨b47, o48, c49, hv50, hc51⟩ := hp.ix (i := (cs.getD (k) default).1) ((cs.getD (k) default).1.toNat) oM oM
  refine rV (r_indexAddr (i := (cs.getD (k) default).1) uT23 ty3 hv50 rfl oM oM) (rV (r_load (v := (iv (p.getD ((cs.getD (k) default).1.toNat) default))) uT3 ag3 rfl hc51) (rV (r_indexAddr (i := (k : Int)) uT22 ty55 rfl rfl oM oM) (rV (r_fieldAddr uT55 rfl ty3 rfl) ?_)))
  replace hap := (hap.ext he30).apn hx35 (Nat.ne_of_lt lt_bC_b29) nb_hx35
  refine RL.runs rfl rfl (h_setPi (i := (k : Int)) ty3 rfl rfl hap (fun h => absurd h.2 dC) (k) oM oM) ?_
  rintro w52 ⟨ha53, hx54⟩
  replace hE := hE.nb hx54 ge_bC
  replace hap := ha53
  refine RL.nil (wregion (rV (r_add (k := .i64) (a := (k : Int)) (b := 1) (c := (k : Int) + 1) hs19 rfl (wi64 oM)) (mV (v := (iv ((k : Int) + 1))) rfl (RL.nil ?_))))
  replace hx := ((hx.tr (Sm.ext he30)).tr (Sm.exc hx35 (fun _ _ _ _ hd => absurd hd.2 (Nat.not_lt_of_le ge_b29)))).tr (Sm.exc hx54 (fun _ _ _ _ hd => absurd hd.2 (Nat.not_lt_of_le ge_bC)))
  replace hp := hp.tr (Sm.exc hx54 (fun _ _ _ _ hd => absurd hd.2 (Nat.not_lt_of_le ge_bC)))
  refine ⟨(k + 1, (cs.set (k) (p.getD ((cs.getD (k) default).1.toNat) default, (cs.getD (k) default).2))), ⟨?_, ?_, ?_, ?_, ?_, ?_, ?_, ?_, ?_⟩, ?_⟩
  · exact (by repeat (first | exact G18 | refine Off.st ?_ dC _))
  · first | rfl | exact int_eq oM | exact bool_eq (by simp)
  · omega
  · rw [hck]; exact pm_step hkl hcs
  · rw [take_snoc rs7 k hkl]; intro e he; rcases List.mem_append.1 he with h | h; exact hin e h; rw [List.mem_singleton.1 h]; rw [hck] at hlow hhigh; exact ⟨by omega, by omega⟩
  · exact hap
  · exact hx
  · exact hE
  · exact hp
  (try dsimp only)
  omega
 refine wexit ?_
 refine wseq ?_
 have hcov : ∀ i, get rs7 i ≠ 0 → 0 ≤ i ∧ i < (p.length : Int) := fun i hi => by
   rcases Classical.em (∃ e ∈ rs7, e.1 = i) with ⟨e, he, rfl⟩ | hno
   · exact hin e (by rw [List.take_of_length_le oM]; exact he)
   exact absurd (get_none fun e he h => hno ⟨e, he, h⟩) hi
 have hr12 := h12 rs7 ha9 hz10 hg11
 refine wregion (mV (v := (.slice (some ⟨bC, 0, none⟩) (rs7.length) (capC))) ((G18 6 rfl).trans (hF15 6)) ?_)
 obtain ⟨xs0, post0, hae, hfe⟩ := id hap
 refine RL.call rfl rfl dC (r_call (vl := [(.slice (some ⟨bC, 0, none⟩) (rs7.length) (capC)), (.func (.func 30) #[] #[])]) ent29 rfl) (sort_ent (key := fun x : EC => x.1) (ok := fun _ => True) (cl := []) ent30 byidx_ok (Exc.of_ext (Ext.refl _)) hae oM (fun _ _ => trivial) oM) ?_
 rintro _ w55 ⟨rfl, ⟨l0, hl0, hsr, hst0⟩, hx56⟩
 replace hE := hE.nb hx56 ge_bC
 obtain ⟨S0, hS0, hprm, hwk⟩ := sort_liftP hfe hae (fun h => absurd h.2 dC) hx56 hl0 hsr hst0
 replace hap := hS0
 refine RL.nil (wsr (mV (v := (.slice (some ⟨bC, 0, none⟩) (rs7.length) (capC))) ((G18 6 rfl).trans (hF15 6)) (aS (v := (.slice (some ⟨bC, 0, none⟩) (rs7.length) (capC))) rfl (aS (v := (.bool true)) rfl (RL.nil ?_)))))
 refine wret ?_
 refine ⟨[(.slice (some ⟨bC, 0, none⟩) (rs7.length) (capC)), (.bool true)], ⟨rfl, ⟨rfl, trivial⟩⟩, ?_⟩
 have hne := pm_fin hip ha9 hz10 (fun e he => hin e (by rw [List.take_of_length_le oM]; exact he)) (by rw [hcs, List.take_of_length_le oM, List.drop_of_length_le oM, List.append_nil] at hprm; exact hprm) hwk
 have hgS : ∀ i, get S0 i = get (pmL p rs7) i := fun i => by rw [← get_perm hprm i, hcs, List.take_of_length_le oM, List.drop_of_length_le oM, List.append_nil]
 exact ⟨⟨_, _, rfl, .inr ⟨rfl, ⟨hip, fun i hi => (by rw [← hg11 i] at hi; exact hcov i hi)⟩, rs7, S0, hap.ec ge_bC (fun _ _ h => h.1) oM oM, hne.1, hne.2, hgS, ha9, hz10, hg11⟩⟩, hE⟩
end Go.Proofs.YtelbjmhhbeijkaaGreat
namespace Go.Proofs.YtelbjmhhbeijkaaGreat
open Go.Vg Go.RowKit _root_.Go.Proofs.Tryz
set_option linter.unusedVariables false
open Go.Vm
theorem awk_ok : IsP [2, 0, 1] ∧ ∀ i, get [(0, ((5 : Int) : Rat))] i ≠ 0 → 0 ≤ i ∧ i < (([2, 0, 1] : List Int).length : Int) := by
  refine ⟨⟨by decide, by decide⟩, fun i hi => ?_⟩
  rcases Classical.em ((0 : Int) = i) with h | h
  · subst h; decide
  exact absurd (get_none fun e he => by rw [List.mem_singleton.1 he]; exact h) hi
theorem awk12 : ∀ r : List Ent', Asc r → NonZ r → (∀ i, get r i = get [(0, ((5 : Int) : Rat))] i) → r.length ≤ 12 := fun r ha hz hg => by
  have h5 : ((5 : Int) : Rat) ≠ 0 := by decide
  rw [canon_ext r [(0, ((5 : Int) : Rat))] ha (by simp [Asc]) hz (fun e he => by rw [List.mem_singleton.1 he]; exact h5) hg]
  decide
theorem awk_perm {r0 rs : List Ent'} (hp : IsP [2, 0, 1] ∧ ∀ i, get [(0, ((5 : Int) : Rat))] i ≠ 0 → 0 ≤ i ∧ i < (([2, 0, 1] : List Int).length : Int)) (ha : Asc rs) (hz : NonZ rs) (hg : ∀ i, get rs i = get (pmL [2, 0, 1] r0) i) (ra : Asc r0) (rz : NonZ r0) (rg : ∀ i, get r0 i = get [(0, ((5 : Int) : Rat))] i) : rs = [(2, ((5 : Int) : Rat))] := by
  have h5 : ((5 : Int) : Rat) ≠ 0 := by decide
  have e := canon_ext r0 [(0, ((5 : Int) : Rat))] ra (by simp [Asc]) rz (fun e he => by rw [List.mem_singleton.1 he]; exact h5) rg
  subst e
  exact canon_ext _ _ ha (by simp [Asc]) hz (fun e he => by rw [List.mem_singleton.1 he]; exact h5) hg
theorem awk_norm {rs : List Ent'} (ha : Asc rs) (hz : NonZ rs) (hg : ∀ i, get rs i = get [(3, ((1 : Int) : Rat)), (1, ((2 : Int) : Rat)), (3, ((-1 : Int) : Rat))] i) : rs = [(1, ((2 : Int) : Rat))] := by
  have h2 : ((2 : Int) : Rat) ≠ 0 := by decide
  refine canon_ext _ _ ha (by simp [Asc]) hz (fun e he => by rw [List.mem_singleton.1 he]; exact h2) fun i => (hg i).trans ?_
  show (if (3 : Int) = i then ((1 : Int) : Rat) else 0) + ((if (1 : Int) = i then ((2 : Int) : Rat) else 0) + ((if (3 : Int) = i then ((-1 : Int) : Rat) else 0) + 0)) = (if (1 : Int) = i then ((2 : Int) : Rat) else 0) + 0
  by_cases h3 : (3 : Int) = i
  · rw [if_pos h3, if_pos h3, if_neg oM]; decide +kernel
  rw [if_neg h3, if_neg h3]; rw [Rat.add_zero, Rat.zero_add]
theorem awk_dot : dtF [(0, ((2 : Int) : Rat)), (5, ((3 : Int) : Rat))] [(5, ((4 : Int) : Rat)), (7, ((1 : Int) : Rat))] = ((12 : Int) : Rat) := by decide +kernel
set_option maxHeartbeats 1000000 in
theorem l_entry {w : World} {i k : Int} (hk : -9223372036854775808 ≤ k ∧ k ≤ 9223372036854775807) :
    Calls Tryz.prog 35 #[(iv i), (iv k)] w fun e w' => ∃ v, e = .returned v ∧ (∃ vn vd, v = .agg #[.int .i64 i, .bool (decide (((k : Int) : Rat).num < 0)), vn, vd] ∧ Rk 3 (fun b T => w.heap.size ≤ b ∧ T = 89) w' (decide (((k : Int) : Rat).num < 0), vn, vd) ((k : Int) : Rat)) ∧ Ext w w' := by
 have hE : Below w.heap.size w w := Below.refl _ _
 refine calls_of (n := 9) (rs := [.cell 4 55]) func35 rfl rfl rfl bL ?_
 refine wset fun F0 hF0 => ?_
 refine wsr ?_
 refine rU (h_alloc (cs := [(iv 0), (.bool false), (.slice none 0 0), (.slice none 0 0)]) ty55 rfl) ?_
 rintro _ w1 ⟨b2, rfl, hs5, hb4, he3⟩
 have ge_b2 := hE.ge hs5
 replace hE := hE.nx he3
 refine RL.nil (wsr (mV (v := (iv i)) (hF0 0) (mV (v := (iv k)) (hF0 1) ?_)))
 refine cL ent36 (r03_from oM) rfl ?_
 rintro _ w6 ⟨⟨vn8, vd10, rfl, hn9, hd11, hl12, hl13⟩, he7⟩
 have hlv14 := den_one ((k : Int) : Rat)
 replace hn9 := hn9.fr hE
 replace hd11 := hd11.fr hE
 refine rV (r_build (vl := [(0, (iv i)), (1, (.agg #[(bd (((k : Int) : Rat).num < 0)), vn8, vd10]))]) (cs := [(iv i), (bd (((k : Int) : Rat).num < 0)), vn8, vd10]) uT55 ty55 rfl (pl55 uT55) rfl) ?_
 replace hb4 := hb4.ext he7
 refine RL.runs rfl rfl (h_stA (cs := [(iv i), (bd (((k : Int) : Rat).num < 0)), vn8, vd10]) (o := 0) ty55 rfl rfl rfl rfl (one_cons rfl (one_cons rfl (one_cons hn9.one (one_cons hd11.one one_nil)))) hb4 bL) ?_
 rintro w15 ⟨hn16, hx17, hz18⟩
 replace hE := (hE.nx he7).nb hx17 ge_b2
 have nb_hx17 := (Nb.of hb4 (nu_cons rfl (nu_cons rfl (nu_cons rfl (nu_cons rfl nu_nil)))))
 replace hb4 : Bk w15 b2 55 [(iv i), (bd (((k : Int) : Rat).num < 0)), vn8, vd10] := hn16
 refine RL.nil ?_
 refine wret ?_
 refine ⟨[(.agg #[(iv i), (bd (((k : Int) : Rat).num < 0)), vn8, vd10])], ⟨⟨_, _, [(iv i), (bd (((k : Int) : Rat).num < 0)), vn8, vd10], rfl, ⟨_, uT55⟩, hb4.cells rfl, .inl ⟨ag55, ⟨_, _, ty55⟩, rfl⟩⟩, trivial⟩, ?_⟩
 replace hn9 := hn9.apn hx17 nb_hx17
 replace hd11 := hd11.apn hx17 nb_hx17
 exact ⟨⟨_, _, rfl, rfl, hn9, hd11, by omega, by omega⟩, hE⟩
set_option maxHeartbeats 4000000 in
theorem l_awake {w : World} :
    Calls Tryz.prog 14 #[] w fun e w' => ∃ v, e = .returned v ∧ v = .bool true ∧ Ext w w' := by
 have hE : Below w.heap.size w w := Below.refl _ _
 refine calls_of (n := 38) (rs := [.tmp 0]) func14 rfl rfl rfl bL ?_
 refine wset fun F0 hF0 => ?_
 refine wsr (aS (v := (.bool false)) rfl (RL.nil (wsr ?_)))
 refine cL (vl := [(iv 0), (iv 5)]) ent35 (l_entry (i := 0) (k := 5) dC) rfl ?_
 rintro _ w1 ⟨⟨vn3, vd4, rfl, hk5⟩, he2⟩
 obtain ⟨-, hn6, hd7, ln8, ln9⟩ := hk5
 replace hn6 := hn6.fr hE
 replace hd7 := hd7.fr hE
 replace hE := hE.nx he2
 refine rU (h_lit (vl := [(0, (.agg #[(iv 0), (bd (((5 : Int) : Rat).num < 0)), vn3, vd4]))]) (cs := [(iv 0), (bd (((5 : Int) : Rat).num < 0)), vn3, vd4]) uT22 ty55 rfl dC (by first | (simp [Instr.fill, Value.cells]; done) | rfl | kernel_rfl)) ?_
 rintro _ w10 ⟨b11, rfl, hs14, hb13, he12⟩
 have ge_b11 := hE.ge hs14
 replace hE := hE.nx he12
 refine rU (h_lit (vl := [(0, (iv 2)), (1, (iv 0)), (2, (iv 1))]) (cs := [(iv 2), (iv 0), (iv 1)]) uT23 ty3 rfl dC (by first | (simp [Instr.fill, Value.cells]; done) | rfl | kernel_rfl)) ?_
 rintro _ w15 ⟨b16, rfl, hs19, hb18, he17⟩
 have lt_b11_b16 := Nat.lt_of_lt_of_eq hb13.lt hs19.symm
 have ge_b16 := hE.ge hs19
 replace hE := hE.nx he17
 replace hb13 := hb13.ext he17
 replace hn6 := hn6.tr (Sm.ext (Ext.trans he12 he17))
 replace hd7 := hd7.tr (Sm.ext (Ext.trans he12 he17))
 have hlit21 := Ec.lit (L := 3) (D := (fun b _ => w.heap.size ≤ b)) (T := 55) [((0, decide (((5 : Int) : Rat).num < 0), vn3, vd4), ((5 : Int) : Rat))] hb13 ge_b11 bL (List.forall_mem_cons.2 ⟨⟨rfl, hn6.mono (fun _ _ h => h.1), hd7.mono (fun _ _ h => h.1), ln8, ln9⟩, (fun _ h => by cases h)⟩)
 refine cL (vl := [(.slice (some ⟨b11, 0, none⟩) (1) (1)), (.slice (some ⟨b16, 0, none⟩) (3) (3))]) ent11 (v_permute (x := [(0, ((5 : Int) : Rat))]) (L := 3) (M := 100) (p := [2, 0, 1]) hlit21.rd (.inr dC) dC dC (hb18.sg (g := gI .i64) (D := (fun b _ => w.heap.size ≤ b)) (xs := [2, 0, 1]) ge_b16 rfl rfl dC) dC awk12) rfl ?_
 rintro vt0 w20 ⟨⟨vp0, ok0, rfl, hdis⟩, he22⟩
 obtain ⟨rfl, hpp, r00, rs0, hpe, hpa, hpz, hpg, hra, hrz, hrg⟩ := hdis.resolve_left (fun h => h.2.2 awk_ok)
 replace hpe := hpe.mono (D' := (fun b _ => w.heap.size ≤ b)) (fun _ _ h => Nat.le_trans hE.size h)
 replace hE := hE.nx he22
 have hpm1 : rs0 = [(2, ((5 : Int) : Rat))] := awk_perm hpp hpa hpz hpg hra hrz hrg
 rw [hpm1] at hpe
 refine mV (v := (.tuple #[vp0, (.bool true)])) rfl (rV (r_extract (v := vp0) rfl rfl) (rV (r_extract (v := (.bool true)) rfl rfl) (aS (v := vp0) rfl (aS (v := (.bool true)) rfl (RL.nil (wsr ?_))))))
 refine cL (vl := [(iv 3), (iv 1)]) ent35 (l_entry (i := 3) (k := 1) dC) rfl ?_
 rintro _ w23 ⟨⟨vn25, vd26, rfl, hk27⟩, he24⟩
 obtain ⟨-, hn28, hd29, ln30, ln31⟩ := hk27
 replace hn28 := hn28.fr hE
 replace hd29 := hd29.fr hE
 replace hE := hE.nx he24
 refine cL (vl := [(iv 1), (iv 2)]) ent35 (l_entry (i := 1) (k := 2) dC) rfl ?_
 rintro _ w32 ⟨⟨vn34, vd35, rfl, hk36⟩, he33⟩
 obtain ⟨-, hn37, hd38, ln39, ln40⟩ := hk36
 replace hn37 := hn37.fr hE
 replace hd38 := hd38.fr hE
 replace hE := hE.nx he33
 refine cL (vl := [(iv 3), (iv (-1))]) ent35 (l_entry (i := 3) (k := -1) dC) rfl ?_
 rintro _ w41 ⟨⟨vn43, vd44, rfl, hk45⟩, he42⟩
 obtain ⟨-, hn46, hd47, ln48, ln49⟩ := hk45
 replace hn46 := hn46.fr hE
 replace hd47 := hd47.fr hE
 replace hE := hE.nx he42
 refine rU (h_lit (vl := [(0, (.agg #[(iv 3), (bd (((1 : Int) : Rat).num < 0)), vn25, vd26])), (1, (.agg #[(iv 1), (bd (((2 : Int) : Rat).num < 0)), vn34, vd35])), (2, (.agg #[(iv 3), (bd (((-1 : Int) : Rat).num < 0)), vn43, vd44]))]) (cs := [(iv 3), (bd (((1 : Int) : Rat).num < 0)), vn25, vd26, (iv 1), (bd (((2 : Int) : Rat).num < 0)), vn34, vd35, (iv 3), (bd (((-1 : Int) : Rat).num < 0)), vn43, vd44]) uT22 ty55 rfl dC (by first | (simp [Instr.fill, Value.cells]; done) | rfl | kernel_rfl)) ?_
 rintro _ w50 ⟨b51, rfl, hs54, hb53, he52⟩
 have hm55 := Ext.trans he22 (Ext.trans he24 (Ext.trans he33 he42))
 replace hb18 := hb18.ext hm55
 have lt_b16_b51 := Nat.lt_of_lt_of_eq hb18.lt hs54.symm
 have ge_b51 := hE.ge hs54
 replace hE := hE.nx he52
 have hm67 := Ext.trans he33 (Ext.trans he42 he52)
 replace hn28 := hn28.tr (Sm.ext hm67)
 replace hd29 := hd29.tr (Sm.ext hm67)
 replace hn37 := hn37.tr (Sm.ext (Ext.trans he42 he52))
 replace hd38 := hd38.tr (Sm.ext (Ext.trans he42 he52))
 replace hn46 := hn46.tr (Sm.ext he52)
 replace hd47 := hd47.tr (Sm.ext he52)
 have hlit66 := Ec.lit (L := 3) (D := (fun b _ => w.heap.size ≤ b)) (T := 55) [((3, decide (((1 : Int) : Rat).num < 0), vn25, vd26), ((1 : Int) : Rat)), ((1, decide (((2 : Int) : Rat).num < 0), vn34, vd35), ((2 : Int) : Rat)), ((3, decide (((-1 : Int) : Rat).num < 0), vn43, vd44), ((-1 : Int) : Rat))] hb53 ge_b51 bL (List.forall_mem_cons.2 ⟨⟨rfl, hn28.mono (fun _ _ h => h.1), hd29.mono (fun _ _ h => h.1), ln30, ln31⟩, (List.forall_mem_cons.2 ⟨⟨rfl, hn37.mono (fun _ _ h => h.1), hd38.mono (fun _ _ h => h.1), ln39, ln40⟩, (List.forall_mem_cons.2 ⟨⟨rfl, hn46.mono (fun _ _ h => h.1), hd47.mono (fun _ _ h => h.1), ln48, ln49⟩, (fun _ h => by cases h)⟩)⟩)⟩)
 refine cL (vl := [(.slice (some ⟨b51, 0, none⟩) (3) (3))]) ent28 (v_norm (x := [(3, ((1 : Int) : Rat)), (1, ((2 : Int) : Rat)), (3, ((-1 : Int) : Rat))]) (L := 3) (M := 100) hlit66.rd (.inr dC) dC dC) rfl ?_
 rintro vn58 w56 ⟨⟨rs59, ho60, ha61, hz62, hg63, hl64, hw65⟩, he57⟩
 replace ho60 := Oe.fr (D' := (fun b T => w.heap.size ≤ b ∧ T = 89)) (lo' := w.heap.size) ho60 hE.size (fun _ _ h => ⟨Nat.le_trans hE.size h.1, h.2⟩)
 replace hE := hE.nx he57
 have hnm := awk_norm ha61 hz62 hg63
 rw [hnm] at ho60
 refine cL (vl := [(iv 1), (iv 2)]) ent35 (l_entry (i := 1) (k := 2) dC) rfl ?_
 rintro _ w68 ⟨⟨vn70, vd71, rfl, hk72⟩, he69⟩
 obtain ⟨-, hn73, hd74, ln75, ln76⟩ := hk72
 replace hn73 := hn73.fr hE
 replace hd74 := hd74.fr hE
 replace hE := hE.nx he69
 refine rU (h_lit (vl := [(0, (.agg #[(iv 1), (bd (((2 : Int) : Rat).num < 0)), vn70, vd71]))]) (cs := [(iv 1), (bd (((2 : Int) : Rat).num < 0)), vn70, vd71]) uT22 ty55 rfl dC (by first | (simp [Instr.fill, Value.cells]; done) | rfl | kernel_rfl)) ?_
 rintro _ w77 ⟨b78, rfl, hs81, hb80, he79⟩
 replace hb53 := hb53.ext (Ext.trans he57 he69)
 have lt_b51_b78 := Nat.lt_of_lt_of_eq hb53.lt hs81.symm
 have ge_b78 := hE.ge hs81
 replace ho60 := ho60.ext he69
 replace hn73 := hn73.tr (Sm.ext he79)
 replace hd74 := hd74.tr (Sm.ext he79)
 have hlit84 := Ec.lit (L := 3) (D := (fun b _ => w.heap.size ≤ b)) (T := 55) [((1, decide (((2 : Int) : Rat).num < 0), vn70, vd71), ((2 : Int) : Rat))] hb80 ge_b78 bL (List.forall_mem_cons.2 ⟨⟨rfl, hn73.mono (fun _ _ h => h.1), hd74.mono (fun _ _ h => h.1), ln75, ln76⟩, (fun _ h => by cases h)⟩)
 replace ho60 := ho60.ext he79
 refine cL ent13 (r06_ident (L := 101) (es := [(1, ((2 : Int) : Rat))]) ((ho60.ec (D' := (fun b _ => w.heap.size ≤ b)) (fun _ h => h) (fun _ _ h => h.1)).wide oM) (hlit84.wide oM) oM) rfl ?_
 rintro _ w82 ⟨rfl, he83⟩
 replace hE := (hE.nx he79).nx he83
 refine mV (v := (.bool true)) rfl ?_
 refine RL.gcall rfl rfl rfl rfl dC (r_call (vl := [(iv 0), (iv 2)]) ent35 rfl) (l_entry (i := 0) (k := 2) dC) ?_
 rintro _ w85 ⟨⟨vn87, vd88, rfl, hk89⟩, he86⟩
 obtain ⟨-, hn90, hd91, ln92, ln93⟩ := hk89
 replace hn90 := hn90.fr hE
 replace hd91 := hd91.fr hE
 replace hE := hE.nx he86
 refine RL.gcall rfl rfl rfl rfl dC (r_call (vl := [(iv 5), (iv 3)]) ent35 rfl) (l_entry (i := 5) (k := 3) dC) ?_
 rintro _ w94 ⟨⟨vn96, vd97, rfl, hk98⟩, he95⟩
 obtain ⟨-, hn99, hd100, ln101, ln102⟩ := hk98
 replace hn99 := hn99.fr hE
 replace hd100 := hd100.fr hE
 replace hE := hE.nx he95
 refine RL.grun rfl rfl rfl rfl dC (h_lit (vl := [(0, (.agg #[(iv 0), (bd (((2 : Int) : Rat).num < 0)), vn87, vd88])), (1, (.agg #[(iv 5), (bd (((3 : Int) : Rat).num < 0)), vn96, vd97]))]) (cs := [(iv 0), (bd (((2 : Int) : Rat).num < 0)), vn87, vd88, (iv 5), (bd (((3 : Int) : Rat).num < 0)), vn96, vd97]) uT22 ty55 rfl dC (by first | (simp [Instr.fill, Value.cells]; done) | rfl | kernel_rfl)) ?_
 rintro _ w103 ⟨b104, rfl, hs107, hb106, he105⟩
 have hm108 := Ext.trans he83 (Ext.trans he86 he95)
 replace hb80 := hb80.ext hm108
 have lt_b78_b104 := Nat.lt_of_lt_of_eq hb80.lt hs107.symm
 have ge_b104 := hE.ge hs107
 replace ho60 := ho60.ext hm108
 replace hE := hE.nx he105
 refine RL.gcall rfl rfl rfl rfl dC (r_call (vl := [(iv 5), (iv 4)]) ent35 rfl) (l_entry (i := 5) (k := 4) dC) ?_
 rintro _ w109 ⟨⟨vn111, vd112, rfl, hk113⟩, he110⟩
 obtain ⟨-, hn114, hd115, ln116, ln117⟩ := hk113
 replace hn114 := hn114.fr hE
 replace hd115 := hd115.fr hE
 replace hE := hE.nx he110
 refine RL.gcall rfl rfl rfl rfl dC (r_call (vl := [(iv 7), (iv 1)]) ent35 rfl) (l_entry (i := 7) (k := 1) dC) ?_
 rintro _ w118 ⟨⟨vn120, vd121, rfl, hk122⟩, he119⟩
 obtain ⟨-, hn123, hd124, ln125, ln126⟩ := hk122
 replace hn123 := hn123.fr hE
 replace hd124 := hd124.fr hE
 replace hE := hE.nx he119
 refine RL.grun rfl rfl rfl rfl dC (h_lit (vl := [(0, (.agg #[(iv 5), (bd (((4 : Int) : Rat).num < 0)), vn111, vd112])), (1, (.agg #[(iv 7), (bd (((1 : Int) : Rat).num < 0)), vn120, vd121]))]) (cs := [(iv 5), (bd (((4 : Int) : Rat).num < 0)), vn111, vd112, (iv 7), (bd (((1 : Int) : Rat).num < 0)), vn120, vd121]) uT22 ty55 rfl dC (by first | (simp [Instr.fill, Value.cells]; done) | rfl | kernel_rfl)) ?_
 rintro _ w127 ⟨b128, rfl, hs131, hb130, he129⟩
 replace hb106 := hb106.ext (Ext.trans he110 he119)
 have lt_b104_b128 := Nat.lt_of_lt_of_eq hb106.lt hs131.symm
 have ge_b128 := hE.ge hs131
 have hm132 := Ext.trans he105 (Ext.trans he110 he119)
 replace ho60 := ho60.ext hm132
 replace hb106 := hb106.ext he129
 have hm135 := Ext.trans he95 (Ext.trans he105 (Ext.trans he110 (Ext.trans he119 he129)))
 replace hn90 := hn90.tr (Sm.ext hm135)
 replace hd91 := hd91.tr (Sm.ext hm135)
 have hm136 := Ext.trans hm132 he129
 replace hn99 := hn99.tr (Sm.ext hm136)
 replace hd100 := hd100.tr (Sm.ext hm136)
 have hlit134 := Ec.lit (L := 3) (D := (fun b _ => w.heap.size ≤ b)) (T := 55) [((0, decide (((2 : Int) : Rat).num < 0), vn87, vd88), ((2 : Int) : Rat)), ((5, decide (((3 : Int) : Rat).num < 0), vn96, vd97), ((3 : Int) : Rat))] hb106 ge_b104 bL (List.forall_mem_cons.2 ⟨⟨rfl, hn90.mono (fun _ _ h => h.1), hd91.mono (fun _ _ h => h.1), ln92, ln93⟩, (List.forall_mem_cons.2 ⟨⟨rfl, hn99.mono (fun _ _ h => h.1), hd100.mono (fun _ _ h => h.1), ln101, ln102⟩, (fun _ h => by cases h)⟩)⟩)
 replace hn114 := hn114.tr (Sm.ext (Ext.trans he119 he129))
 replace hd115 := hd115.tr (Sm.ext (Ext.trans he119 he129))
 replace hn123 := hn123.tr (Sm.ext he129)
 replace hd124 := hd124.tr (Sm.ext he129)
 have hlit137 := Ec.lit (L := 3) (D := (fun b _ => w.heap.size ≤ b)) (T := 55) [((5, decide (((4 : Int) : Rat).num < 0), vn111, vd112), ((4 : Int) : Rat)), ((7, decide (((1 : Int) : Rat).num < 0), vn120, vd121), ((1 : Int) : Rat))] hb130 ge_b128 bL (List.forall_mem_cons.2 ⟨⟨rfl, hn114.mono (fun _ _ h => h.1), hd115.mono (fun _ _ h => h.1), ln116, ln117⟩, (List.forall_mem_cons.2 ⟨⟨rfl, hn123.mono (fun _ _ h => h.1), hd124.mono (fun _ _ h => h.1), ln125, ln126⟩, (fun _ h => by cases h)⟩)⟩)
 refine RL.gcall rfl rfl rfl rfl dC (r_call (vl := [(.slice (some ⟨b104, 0, none⟩) (2) (2)), (.slice (some ⟨b128, 0, none⟩) (2) (2))]) ent18 rfl) (v_dot (x := [(0, ((2 : Int) : Rat)), (5, ((3 : Int) : Rat))]) (y := [(5, ((4 : Int) : Rat)), (7, ((1 : Int) : Rat))]) (M := 100) hlit134.rd hlit137.rd (.inr dC) dC (.inr dC) dC dC) ?_
 rintro vt1 w133 ⟨⟨vq, uq, hvq, hqx, hqd, _, _⟩, he138⟩
 rw [awk_dot] at hvq
 subst hvq
 replace hE := (hE.nx he129).nx he138
 rw [awk_dot] at hqx hqd
 refine RL.gcall rfl rfl rfl rfl dC (r_call (vl := [(iv 12)]) ent36 rfl) (r03_from oM) ?_
 rintro _ w139 ⟨⟨vn141, vd143, rfl, hn142, hd144, hl145, hl146⟩, he140⟩
 have hlv147 := den_one ((12 : Int) : Rat)
 replace hn142 := hn142.fr hE
 replace hd144 := hd144.fr hE
 replace hqx := hqx.tr (Sm.ext he140)
 replace hqd := hqd.tr (Sm.ext he140)
 refine RL.gcall rfl rfl rfl rfl dC (r_call (vl := [(.agg #[(bd (((12 : Int) : Rat).num < 0)), vq, uq]), (.agg #[(bd (((12 : Int) : Rat).num < 0)), vn141, vd143])]) ent17 rfl) (r03_eqt hqx hqd hn142 hd144) ?_
 rintro _ w148 ⟨rfl, he149⟩
 replace hE := (hE.nx he140).nx he149
 refine rV (r_pick_t (v := (.bool true)) rfl rfl) (mV (v := (.bool true)) rfl ?_)
 refine RL.gval rfl rfl rfl rfl dC (r_move_as (v := (.bool true)) rfl) ?_
 refine rV (r_pick_t (v := (.bool true)) rfl rfl) (mV (v := (.bool true)) rfl ?_)
 refine RL.gval rfl rfl rfl rfl dC (r_move_as (v := vp0) rfl) ?_
 refine RL.gcall rfl rfl rfl rfl dC (r_call (vl := [(iv 2), (iv 5)]) ent35 rfl) (l_entry (i := 2) (k := 5) dC) ?_
 rintro _ w150 ⟨⟨vn152, vd153, rfl, hk154⟩, he151⟩
 obtain ⟨-, hn155, hd156, ln157, ln158⟩ := hk154
 replace hn155 := hn155.fr hE
 replace hd156 := hd156.fr hE
 replace hE := hE.nx he151
 refine RL.grun rfl rfl rfl rfl dC (h_lit (vl := [(0, (.agg #[(iv 2), (bd (((5 : Int) : Rat).num < 0)), vn152, vd153]))]) (cs := [(iv 2), (bd (((5 : Int) : Rat).num < 0)), vn152, vd153]) uT22 ty55 rfl dC (by first | (simp [Instr.fill, Value.cells]; done) | rfl | kernel_rfl)) ?_
 rintro _ w159 ⟨b160, rfl, hs163, hb162, he161⟩
 have hm164 := Ext.trans he138 (Ext.trans he140 (Ext.trans he149 he151))
 replace hb130 := hb130.ext hm164
 have lt_b128_b160 := Nat.lt_of_lt_of_eq hb130.lt hs163.symm
 have ge_b160 := hE.ge hs163
 have hm165 := Ext.trans he129 (Ext.trans he138 (Ext.trans he140 (Ext.trans he149 he151)))
 replace ho60 := ho60.ext hm165
 replace hn155 := hn155.tr (Sm.ext he161)
 replace hd156 := hd156.tr (Sm.ext he161)
 have hlit168 := Ec.lit (L := 3) (D := (fun b _ => w.heap.size ≤ b)) (T := 55) [((2, decide (((5 : Int) : Rat).num < 0), vn152, vd153), ((5 : Int) : Rat))] hb162 ge_b160 bL (List.forall_mem_cons.2 ⟨⟨rfl, hn155.mono (fun _ _ h => h.1), hd156.mono (fun _ _ h => h.1), ln157, ln158⟩, (fun _ h => by cases h)⟩)
 have hm169 := Ext.trans he24 (Ext.trans he33 (Ext.trans he42 (Ext.trans he52 (Ext.trans he57 (Ext.trans he69 (Ext.trans he79 (Ext.trans he83 (Ext.trans he86 (Ext.trans he95 (Ext.trans he105 (Ext.trans he110 (Ext.trans he119 (Ext.trans he129 (Ext.trans he138 (Ext.trans he140 (Ext.trans he149 (Ext.trans he151 he161)))))))))))))))))
 replace hpe := hpe.tr (Sm.ext hm169)
 refine RL.gcall rfl rfl rfl rfl dC (r_call (vl := [vp0, (.slice (some ⟨b160, 0, none⟩) (1) (1))]) ent13 rfl) (r06_ident (L := 101) (es := [(2, ((5 : Int) : Rat))]) (hpe.wide oM) (hlit168.wide oM) oM) ?_
 rintro _ w166 ⟨rfl, he167⟩
 replace hE := (hE.nx he161).nx he167
 refine rV (r_pick_t (v := (.bool true)) rfl rfl) (aS (v := (.bool true)) rfl (RL.nil ?_))
 refine wret ?_
 refine ⟨[(.bool true)], ⟨rfl, trivial⟩, ?_⟩
 exact ⟨rfl, hE⟩
end Go.Proofs.YtelbjmhhbeijkaaGreat
namespace Go.Proofs.YtelbjmhhbeijkaaGreat
open Go.Vg Go.RowKit _root_.Go.Proofs.Tryz
set_option linter.unusedVariables false
open Go.Vm
theorem fit_le {n m t M : Nat} (h : n ≤ m) (h2 : (m + 1) * t ≤ M) : (n + 1) * t ≤ M := Nat.le_trans (Nat.mul_le_mul_right t oM) h2
end Go.Proofs.YtelbjmhhbeijkaaGreat
namespace Go.Vg
open Go Go.RowKit Go.Vm
def Oi (w : World) (lo : Nat) (T : TypeId) (v : Value) (xs : List Int) : Prop := Ow w lo T 1 v xs.length (xs.map (gI .i64))
section
variable {D D' : Nat → TypeId → Prop} {w w' : World} {lo b : Nat} {T T' : TypeId} {v : Value} {xs : List Int} {l : List Value}
theorem Oi.nil : Oi w lo T (.slice none 0 0) [] := Ow.nil lo 1
theorem Oi.ext (h : Oi w lo T v xs) (e : Ext w w') : Oi w' lo T v xs := Ow.ext h e
theorem Oi.exo (h : Oi w lo T v xs) (e : Exc b w w') (hne : v.ownBlock ≠ some b) (_hb : Nb w b) : Oi w' lo T v xs := Ow.exo h e hne
theorem Oi.lt (h : Oi w lo T v xs) (b : Nat) (hb : v.ownBlock = some b) : b < w.heap.size := (World.ownsRow.lt h b hb).2
theorem Oi.one (h : Oi w lo T v xs) : v.oneCell' = true := Ow.one h
theorem Oi.len (h : Oi w lo T v xs) : ∃ A c, v = .slice A xs.length c ∧ xs.length ≤ c ∧ c ≤ 9223372036854775807 := Ow.len h
theorem Oi.gsm (h : Oi w lo T v xs) (hg : w.grownBy w' v.ownBlock) (hD : ∀ b, lo ≤ b → ¬ D' b T) : Sm D' w w' := Ow.sm h hg hD
theorem Oi.gbk (h : Oi w lo T v xs) (hg : w.grownBy w' v.ownBlock) (hb : Bk w b T' l) (hne : T' ≠ T) : Bk w' b T' l := Ow.bk h hg hb (.inr hne)
theorem Oi.gbo (_h : Oi w lo T v xs) (hg : w.grownBy w' v.ownBlock) (hb : Bk w b T' l) (hne : v.ownBlock ≠ some b) : Bk w' b T' l := (hg.block b hb.lt (fun he => hne he.symm)).trans hb
theorem Oi.gbe {w0 : World} {B : Nat} (h : Oi w lo T v xs) (hg : w.grownBy w' v.ownBlock) (hE : Below B w0 w) (hB : B ≤ lo) (hs : B ≤ w.heap.size) : Below B w0 w' := Ow.below h hg hE hB hs
theorem Oe.nil {L : Nat} : Oe L D w lo T (.slice none 0 0) [] := ⟨[], Ow.nil lo 4, Fe.nil⟩
theorem Oe.gbl {w0 : World} {L B : Nat} {es : List Ent'} (h : Oe L D w lo T v es) (hg : w.grownBy w' v.ownBlock) (hE : Below B w0 w) (hB : B ≤ lo) (hs : B ≤ w.heap.size) : Below B w0 w' := by
  obtain ⟨xs, h1, h2⟩ := h
  exact h1.below hg hE hB hs
theorem Oi.room (hb : Bk w b T []) (hlo : lo ≤ b) : Oi w lo T (.slice (some ⟨b, 0, none⟩) 0 0) [] := Ow.room hb hlo rfl (Nat.zero_le _)
theorem Oi.sg (h : Oi w lo T v xs) (hD : ∀ b, lo ≤ b → D b T) : Sg (gI .i64) D w v xs := Ow.sg h rfl rfl hD
end
section
variable {P : Program} {f : Nat → Value} {w : World} {dst : Option Tmp} {ty : TypeId} {pos : String} {aft : Array Edge} {g : Option (Nat × Bool)} {x y z : Operand} {t e : TypeId} {D D2 : Nat → TypeId → Prop}
theorem h_appendIs {lo bytes : Nat} {zz v1 v2 : Value} {xs ys : List Int} (hu : P.underlying t = some (.slice e)) (ht : TyI P e 1 bytes zz) (hz : zz.cells.size = 1) (hx : ev f x = v1) (hy : ev f y = v2)
    (ho : Oi w lo e v1 xs) (hs : Sg (gI .i64) D2 w v2 ys) (h63 : xs.length + ys.length ≤ maxLen) (hby : (xs.length + ys.length) * bytes ≤ 140737488355328) (hlo : lo ≤ w.heap.size) :
    Run P f ⟨dst, .call ⟨.builtin .append, #[x, y], #[t, t]⟩, ty, pos, aft, g⟩ w fun v w' => Oi w' lo e v (xs ++ ys) ∧ w.grownBy w' v1.ownBlock := by
  obtain ⟨v, w', hr, h4, h5⟩ := h_append (P := P) (f := f) (dst := dst) (ty := ty) (pos := pos) (aft := aft) (g := g) hu ht hz dC hx hy ho hs (fun u hu => by obtain ⟨i, _, rfl⟩ := List.mem_map.1 hu; rfl) h63 hby hlo
  refine ⟨v, w', hr, ?_, h5⟩
  unfold Oi
  rw [List.length_append, List.map_append]
  exact h4
theorem h_appendI {lo bytes : Nat} {zz v1 v2 : Value} {xs : List Int} {i0 : Int} (hu : P.underlying t = some (.slice e)) (ht : TyI P e 1 bytes zz) (hz : zz.cells.size = 1) (hx : ev f x = v1) (hy : ev f y = v2)
    (ho : Oi w lo e v1 xs) (hs : Sc D2 w 1 v2 1 [.int .i64 i0]) (h63 : xs.length + 1 ≤ maxLen) (hby : (xs.length + 1) * bytes ≤ 140737488355328) (hlo : lo ≤ w.heap.size) :
    Run P f ⟨dst, .call ⟨.builtin .append, #[x, y], #[t, t]⟩, ty, pos, aft, g⟩ w fun v w' => Oi w' lo e v (xs ++ [i0]) ∧ w.grownBy w' v1.ownBlock := by
  obtain ⟨v, w', hr, h4, h5⟩ := h_append (P := P) (f := f) (dst := dst) (ty := ty) (pos := pos) (aft := aft) (g := g) hu ht hz dC hx hy ho hs (one_cons rfl one_nil) h63 hby hlo
  refine ⟨v, w', hr, ?_, h5⟩
  unfold Oi
  rw [List.length_append, List.length_singleton, List.map_append]
  exact h4
end
end Go.Vg
namespace Go.Proofs.YtelbjmhhbeijkaaGreat
open Go.Vg Go.RowKit _root_.Go.Proofs.Tryz
set_option linter.unusedVariables false
open Go.Vm
end Go.Proofs.YtelbjmhhbeijkaaGreat
namespace Go.Proofs.YtelbjmhhbeijkaaGreat
open Go.Vg Go.RowKit _root_.Go.Proofs.Tryz
set_option linter.unusedVariables false
open Go.Vm
end Go.Proofs.YtelbjmhhbeijkaaGreat
namespace Go.Proofs.YtelbjmhhbeijkaaGreat
open Go.Vg Go.RowKit _root_.Go.Proofs.Tryz
set_option linter.unusedVariables false
open Go.Vm
theorem wabs {P : Program} {n : Nat} {f : Nat → Value} {w : World} {Q : Po} {c : Code} (h : ∀ Q' : Po, (∀ f w, Q.nrm f w → Q'.nrm f w) → (∀ i f w, Q.ext i f w → Q'.ext i f w) → (∀ f w, Q.ret f w → Q'.ret f w) → WP P n c Q' f w) : WP P n c Q f w := h Q (fun _ _ h => h) (fun _ _ _ h => h) (fun _ _ h => h)
end Go.Proofs.YtelbjmhhbeijkaaGreat
namespace Go.Proofs.YtelbjmhhbeijkaaGreat
open Go.Vg Go.RowKit _root_.Go.Proofs.Tryz
set_option linter.unusedVariables false
open Go.Vm
def SA (l : List Int) : Prop := l.Pairwise fun a b => a < b
def Ix (cl : List Int) (es : List Ent') : Prop := SA cl ∧ ∀ i, i ∈ cl ↔ ∃ e ∈ es, e.1 = i
theorem ix_nil : Ix [] [] := ⟨List.Pairwise.nil, fun i => ⟨(fun h => by cases h), fun h => by obtain ⟨_, h, _⟩ := h; cases h⟩⟩
theorem ix_old {cl : List Int} {es : List Ent'} {k : Nat} (hk : k < es.length) (h : Ix cl (es.take k)) (hm : (es.getD k default).1 ∈ cl) : Ix cl (es.take (k + 1)) := by
  refine ⟨h.1, fun i => ?_⟩
  rw [take_snoc es k hk, h.2]
  constructor
  · rintro ⟨e, he, rfl⟩; exact ⟨e, List.mem_append_left _ he, rfl⟩
  rintro ⟨e, he, rfl⟩
  rcases List.mem_append.1 he with g | g
  · exact ⟨e, g, rfl⟩
  rw [List.mem_singleton.1 g]; exact (h.2 _).1 hm
theorem sa_lt {cl : List Int} (h : SA cl) {a : Nat} {x : Int} (ha : a < cl.length) (hx : x < cl.getD a default) : ∀ y ∈ cl.drop a, x < y := fun y hy => by
  obtain ⟨j, hj, rfl⟩ := List.mem_iff_getElem.1 hy
  rw [List.getElem_drop]
  rw [List.getD_eq_getElem?_getD, List.getElem?_eq_getElem ha] at hx
  have hx' : x < cl[a] := hx
  rw [List.length_drop] at hj
  rcases Nat.eq_zero_or_pos j with rfl | hp
  · exact hx'
  have := List.pairwise_iff_getElem.1 h a (a + j) ha oM oM
  omega
theorem ix_new {cl : List Int} {es : List Ent'} {k a : Nat} (hk : k < es.length) (h : Ix cl (es.take k)) (ha : a ≤ cl.length) (hlt : ∀ y ∈ cl.take a, y < (es.getD k default).1) (hge : ∀ y ∈ cl.drop a, (es.getD k default).1 < y) : Ix ((([] ++ cl.take a) ++ [(es.getD k default).1]) ++ cl.drop a) (es.take (k + 1)) := by
  generalize hx : (es.getD k default).1 = x at *
  have hp : ((([] ++ cl.take a) ++ [x]) ++ cl.drop a).Perm (x :: cl) := by
    rw [List.nil_append, List.append_assoc, List.singleton_append]
    refine List.perm_middle.trans ?_
    rw [List.take_append_drop]
  refine ⟨?_, fun i => ?_⟩
  · rw [List.nil_append, List.append_assoc, List.singleton_append]
    refine List.pairwise_append.2 ⟨h.1.sublist (List.take_sublist _ _), List.pairwise_cons.2 ⟨hge, h.1.sublist (List.drop_sublist _ _)⟩, fun y hy z hz => ?_⟩
    rcases List.mem_cons.1 hz with rfl | g
    · exact hlt y hy
    have := hlt y hy; have := hge z g; omega
  rw [hp.mem_iff, List.mem_cons, h.2, take_snoc es k hk]
  constructor
  · rintro (rfl | ⟨e, he, rfl⟩)
    · exact ⟨_, List.mem_append_right _ (by simp), hx⟩
    exact ⟨e, List.mem_append_left _ he, rfl⟩
  rintro ⟨e, he, rfl⟩
  rcases List.mem_append.1 he with g | g
  · exact .inr ⟨e, g, rfl⟩
  rw [List.mem_singleton.1 g]; exact .inl hx
theorem lt_tk {cl : List Int} {a : Nat} {x : Int} (ha : a < cl.length) (h : ∀ y ∈ cl.take a, y < x) (hx : cl.getD a default < x) : ∀ y ∈ cl.take (a + 1), y < x := by
  rw [take_snoc cl a ha]
  intro y hy
  rcases List.mem_append.1 hy with g | g
  · exact h y g
  rw [List.mem_singleton.1 g]; exact hx
theorem ge_dp {cl : List Int} (h : SA cl) {a : Nat} {x : Int} (hge : a < cl.length → x ≤ cl.getD a default) (hne : a < cl.length → ¬ cl.getD a default = x) : ∀ y ∈ cl.drop a, x < y := by
  by_cases ha : a < cl.length
  · exact sa_lt h ha (by have := hge ha; have := hne ha; omega)
  rw [List.drop_of_length_le oM]; intro y hy; cases hy
set_option maxHeartbeats 4000000 in
theorem r06_ind {w : World} {L : Nat} {Des : Nat → TypeId → Prop} {ves : Value} {es : List Ent'} (hes0 : Es L Des w ves es) {bl : Nat} (hbl : Bk w bl 22 [ves]) (hln : es.length ≤ 1048576) :
    Calls Tryz.prog 53 #[(.slice (some ⟨bl, 0, none⟩) (1) (1))] w fun e w' => ∃ v, e = .returned v ∧ (∃ cl, Ix cl es ∧ cl.length ≤ es.length ∧ Sg (gI .i64) (fun b _ => w.heap.size ≤ b) w' v cl) ∧ Ext w w' := by
 have hE : Below w.heap.size w w := Below.refl _ _
 have hes := hes0.old
 clear hes0
 refine calls_of (n := 75) (rs := [.tmp 2]) func53 rfl rfl rfl bL ?_
 refine wset fun F0 hF0 => ?_
 refine wsr (aS (v := (.slice none (0) (0))) rfl (RL.nil (wsr (aS (v := (.slice none (0) (0))) rfl (RL.nil (wseq (wsr (mV (v := (.slice (some ⟨bl, 0, none⟩) (1) (1))) (hF0 0) (rV (r_len uT105 rfl) (mV (v := (iv 0)) rfl (RL.nil ?_)))))))))))
 refine wblock ?_
 refine wset fun F1 hF2 => ?_
 refine wloop (σ := Nat × List Int × Value) (fun (s : Nat × List Int × Value) fl wl => match s with | (j, cl, vp) => Off (3 :: (rg 5 4 (rg 11 63 []))) F1 fl ∧ fl 11 = (iv j) ∧ fl 3 = vp ∧ (j ≤ 1) ∧ (Ix cl (es.take (j * es.length))) ∧ (cl.length ≤ es.length) ∧ (Sg (gI .i64) (fun b _ => w.heap.size ≤ b) wl vp cl) ∧ (Es L (fun b T => Des b T ∧ b < w.heap.size) wl ves es) ∧ (Below w.heap.size w wl) ∧ (Bk wl bl 22 [ves])) (fun (s : Nat × List Int × Value) => match s with | (j, cl, vp) => 1 - j) (0, [], (.slice none 0 0)) ?_ ?_
 ·exact ⟨Off.refl _ _, (hF2 11).trans (rfl), (hF2 3).trans (rfl), Nat.zero_le _, (by rw [Nat.zero_mul]; exact ix_nil), Nat.zero_le _, Sg.nil, hes, hE, hbl⟩
 clear hes hE hbl
 rintro ⟨j, cl, vp⟩ f3 w4 ⟨G5, hs6, hs7, hj, hI, hcl, hP, hes, hE, hbl⟩
 refine wsr (rV (r_lss (k := .i64) (a := (j : Int)) (b := ((1 : Nat) : Int)) hs6 ((G5 10 rfl).trans (hF2 10))) (RL.nil (wseq ?_)))
 refine wcD (p := (j : Int) < ((1 : Nat) : Int)) rfl (fun hb8 hb8p => ?_) (fun hb8 hb8p => ?_)
 ·refine wskip ?_
  refine wseq ?_
  refine wblock ?_
  refine wsr (rV (r_indexAddr (i := (j : Int)) uT105 ty22 ((G5 9 rfl).trans (hF2 9)) hs6 oM oM) (rV (r_load (v := ves) uT22 ag22 rfl (show _ = some ves by rw [show j = 0 by omega]; exact hbl.cell (j := 0) rfl)) (aS (v := ves) rfl (RL.nil (wsr (aS (v := (iv 0)) rfl (RL.nil ?_)))))))
  refine wblock ?_
  refine wset fun F9 hF10 => ?_
  refine wloop (σ := Nat × List Int × Value) (fun (s : Nat × List Int × Value) fl wl => match s with | (k, cl, vp) => Off (3 :: (rg 6 3 (rg 15 58 []))) F9 fl ∧ fl 6 = (iv k) ∧ fl 3 = vp ∧ (k ≤ es.length) ∧ (Ix cl (es.take k)) ∧ (cl.length ≤ k) ∧ (Sg (gI .i64) (fun b _ => w.heap.size ≤ b) wl vp cl) ∧ (Es L (fun b T => Des b T ∧ b < w.heap.size) wl ves es) ∧ (Below w.heap.size w wl) ∧ (Bk wl bl 22 [ves])) (fun (s : Nat × List Int × Value) => match s with | (k, cl, vp) => es.length - k) (0, cl, vp) ?_ ?_
  ·exact ⟨Off.refl _ _, (hF10 6).trans (rfl), (hF10 3).trans ((hs7).trans rfl), Nat.zero_le _, (by rw [show j * es.length = 0 by rw [show j = 0 by omega]; omega] at hI; exact hI), (by rw [show j * es.length = 0 by rw [show j = 0 by omega]; omega] at hI; have := hI.2; exact Nat.le_of_eq (by rcases cl with _ | ⟨x, t⟩; rfl; obtain ⟨_, h, _⟩ := (this x).1 (by simp); cases h)), hP, hes, hE, hbl⟩
  clear hes hE hbl hP
  rintro ⟨k, cl, vp⟩ f11 w12 ⟨G13, hs14, hs15, hk, hK, hck, hP, hes, hE, hbl⟩
  refine wabs fun _ hqn16 hqe17 hqr18 => ?_
  refine wseq (wsr (mV hs14 (mV (v := ves) ((G13 5 rfl).trans (hF10 5)) ?_)))
  obtain ⟨A19, c20, hv21, hc22, hc23⟩ := hes.len
  refine rV (r_len uT22 hv21) (rV (r_lss (k := .i64) (a := (k : Int)) (b := ((es.length : Nat) : Int)) rfl rfl) (RL.nil ?_))
  refine wcD (p := (k : Int) < ((es.length : Nat) : Int)) rfl (fun hb24 hb24p => ?_) (fun hb24 hb24p => ?_)
  ·refine wskip ?_
   refine wseq ?_
   refine wblock ?_
   refine wseq ?_
   have hkl : k < es.length := by omega
   obtain ⟨A25, c26, hv27, hc28, hc29⟩ := hP.len
   refine wregion (aS (v := (iv 0)) rfl (RL.nil (wseq ?_)))
   refine wblock ?_
   refine wset fun F30 hF31 => ?_
   refine wloop (σ := Nat) (fun (a : Nat) fl wl => Off (7 :: (rg 21 18 [])) F30 fl ∧ fl 7 = (iv a) ∧ (a ≤ cl.length) ∧ (∀ y ∈ cl.take a, y < (es.getD (k) default).1) ∧ (Es L (fun b T => Des b T ∧ b < w.heap.size) wl ves es) ∧ (Below w.heap.size w wl) ∧ (Bk wl bl 22 [ves]) ∧ (Sg (gI .i64) (fun b _ => w.heap.size ≤ b) wl vp cl)) (fun (a : Nat) => cl.length - a) (0) ?_ ?_
   ·exact ⟨Off.refl _ _, (hF31 7).trans (rfl), Nat.zero_le _, (fun y h => by simp at h), hes, hE, hbl, hP⟩
   clear hes hE hbl hP
   rintro a f32 w33 ⟨G34, hs35, ha, hlt, hes, hE, hbl, hP⟩
   refine wabs fun _ hqn36 hqe37 hqr38 => ?_
   refine wseq (wseq ?_)
   refine wdraw mixed fun w39 he40 => ?_
   replace hE := hE.nx he40
   refine aM 0 rfl (v := (iv a)) hs35 ?_
   refine aM 1 rfl (v := vp) ((G34 3 rfl).trans ((hF31 3).trans hs15)) ?_
   refine ra 2 rfl (fun _ => r_len uT23 hv27) ?_
   refine ra 3 rfl (fun _ => r_lss (k := .i64) (a := (a : Int)) (b := ((cl.length : Nat) : Int)) rfl rfl) ?_
   refine aM 4 rfl (v := (bd ((a : Int) < ((cl.length : Nat) : Int)))) rfl ?_
   rcases bD ((a : Int) < ((cl.length : Nat) : Int)) with ⟨hb41, hb41p⟩ | ⟨hb41, hb41p⟩
   ·have hin := hb41p
    refine aG 5 rfl rfl (bool_eq hb41) (fun _ => r_move_as (v := vp) ((G34 3 rfl).trans ((hF31 3).trans hs15))) ?_
    refine aG 6 rfl rfl (bool_eq hb41) (fun _ => r_move_as (v := (iv a)) hs35) ?_
    replace hP := hP.tr (Sm.ext he40)
    obtain ⟨b42, o43, c44, hv45, hc46⟩ := hP.ix (i := (a : Int)) (a) oM oM
    refine aG 7 rfl rfl (bool_eq hb41) (fun _ => r_indexAddr (i := (a : Int)) uT23 ty3 hv45 rfl oM oM) ?_
    refine RA.grd 8 rfl kR rfl rfl rfl (bool_eq hb41) rfl dC (Ext.refl _) (fun u hu => r_load (v := (iv (cl.getD (a) default))) uT3 ag3 rfl (cell_ext hu hc46)) ?_
    refine aG 9 rfl rfl (bool_eq hb41) (fun _ => r_move_as (v := ves) ((G34 5 rfl).trans ((hF31 5).trans ((G13 5 rfl).trans (hF10 5))))) ?_
    refine aG 10 rfl rfl (bool_eq hb41) (fun _ => r_move_as (v := (iv k)) ((G34 6 rfl).trans ((hF31 6).trans hs14))) ?_
    replace hes := hes.tr (Sm.ext he40)
    obtain ⟨b47, o48, c49, s54, A52, B53, x55, d56, hv50, hc51, hx57, lm58, ln59, hd60, lm61, ln62, eq63⟩ := hes.ix (i := (k : Int)) (k) oM oM
    refine aG 11 rfl rfl (bool_eq hb41) (fun _ => r_indexAddr (i := (k : Int)) uT22 ty55 hv50 rfl oM oM) ?_
    refine aG 12 rfl rfl (bool_eq hb41) (fun _ => r_fieldAddr uT55 rfl ty3 rfl) ?_
    refine RA.grd 13 rfl kR rfl rfl rfl (bool_eq hb41) rfl dC (Ext.refl _) (fun u hu => r_load (v := (iv ((es.getD (k) default).1))) uT3 ag3 rfl (cell_ext hu (hc51 0 _ rfl))) ?_
    refine aG 14 rfl rfl (bool_eq hb41) (fun _ => r_lss (k := .i64) (a := cl.getD (a) default) (b := (es.getD (k) default).1) rfl rfl) ?_
    refine ra 15 rfl (fun _ => r_pick_t (v := (bd ((cl.getD (a) default) < ((es.getD (k) default).1)))) (bool_eq hb41) rfl) ?_
    refine RA.done kR ?_
    refine wcD (p := (cl.getD (a) default) < ((es.getD (k) default).1)) rfl (fun hb64 hb64p => ?_) (fun hb64 hb64p => ?_)
    ·have hls := hb64p
     refine wskip ?_
     refine wblock ?_
     refine wregion (mV hs35 (rV (r_add (k := .i64) (a := (a : Int)) (b := 1) (c := (a : Int) + 1) rfl rfl (wi64 oM)) (aS (v := (iv ((a : Int) + 1))) rfl (RL.nil ?_))))
     refine hqn36 _ _ ?_
     replace hbl := hbl.ext he40
     refine ⟨(a + 1), ⟨?_, ?_, ?_, ?_, ?_, ?_, ?_, ?_⟩, ?_⟩
     · exact (by repeat (first | exact G34 | refine Off.st ?_ dC _ | refine Off.via G13 dC ?_ | refine Off.eq hF10 ?_ | refine Off.via G5 dC ?_ | refine Off.eq hF2 ?_))
     · first | rfl | exact int_eq oM | exact bool_eq (by simp)
     · omega
     · exact lt_tk oM hlt hls
     · exact hes
     · exact hE
     · exact hbl
     · exact hP
     (try dsimp only)
     omega
    have hge : a < cl.length → (es.getD (k) default).1 ≤ cl.getD a default := fun h => by omega
    refine wexit ?_
    refine hqe37 _ _ _ ?_
    refine wseq (wseq ?_)
    refine wdraw mixed fun w65 he66 => ?_
    replace hE := hE.nx he66
    refine aM 0 rfl (v := (iv a)) hs35 ?_
    refine aM 1 rfl (v := vp) ((G34 3 rfl).trans ((hF31 3).trans hs15)) ?_
    refine ra 2 rfl (fun _ => r_len uT23 hv27) ?_
    refine ra 3 rfl (fun _ => r_lss (k := .i64) (a := (a : Int)) (b := ((cl.length : Nat) : Int)) rfl rfl) ?_
    refine aM 4 rfl (v := (bd ((a : Int) < ((cl.length : Nat) : Int)))) rfl ?_
    rcases bD ((a : Int) < ((cl.length : Nat) : Int)) with ⟨hb67, hb67p⟩ | ⟨hb67, hb67p⟩
    ·refine aG 5 rfl rfl (bool_eq hb67) (fun _ => r_move_as (v := vp) ((G34 3 rfl).trans ((hF31 3).trans hs15))) ?_
     refine aG 6 rfl rfl (bool_eq hb67) (fun _ => r_move_as (v := (iv a)) hs35) ?_
     replace hP := hP.tr (Sm.ext he66)
     obtain ⟨b68, o69, c70, hv71, hc72⟩ := hP.ix (i := (a : Int)) (a) oM oM
     refine aG 7 rfl rfl (bool_eq hb67) (fun _ => r_indexAddr (i := (a : Int)) uT23 ty3 hv71 rfl oM oM) ?_
     refine RA.grd 8 rfl kR rfl rfl rfl (bool_eq hb67) rfl dC (Ext.refl _) (fun u hu => r_load (v := (iv (cl.getD (a) default))) uT3 ag3 rfl (cell_ext hu hc72)) ?_
     refine aG 9 rfl rfl (bool_eq hb67) (fun _ => r_move_as (v := ves) ((G34 5 rfl).trans ((hF31 5).trans ((G13 5 rfl).trans (hF10 5))))) ?_
     refine aG 10 rfl rfl (bool_eq hb67) (fun _ => r_move_as (v := (iv k)) ((G34 6 rfl).trans ((hF31 6).trans hs14))) ?_
     replace hes := hes.tr (Sm.ext he66)
     obtain ⟨b73, o74, c75, s80, A78, B79, x81, d82, hv76, hc77, hx83, lm84, ln85, hd86, lm87, ln88, eq89⟩ := hes.ix (i := (k : Int)) (k) oM oM
     refine aG 11 rfl rfl (bool_eq hb67) (fun _ => r_indexAddr (i := (k : Int)) uT22 ty55 hv76 rfl oM oM) ?_
     refine aG 12 rfl rfl (bool_eq hb67) (fun _ => r_fieldAddr uT55 rfl ty3 rfl) ?_
     refine RA.grd 13 rfl kR rfl rfl rfl (bool_eq hb67) rfl dC (Ext.refl _) (fun u hu => r_load (v := (iv ((es.getD (k) default).1))) uT3 ag3 rfl (cell_ext hu (hc77 0 _ rfl))) ?_
     refine aG 14 rfl rfl (bool_eq hb67) (fun _ => r_eql (k := .i64) (a := cl.getD (a) default) (b := (es.getD (k) default).1) rfl rfl) ?_
     refine ra 15 rfl (fun _ => r_pick_t (v := (bd ((cl.getD (a) default) = ((es.getD (k) default).1)))) (bool_eq hb67) rfl) ?_
     refine RA.done kR ?_
     refine wcD (p := (cl.getD (a) default) = ((es.getD (k) default).1)) rfl (fun hb90 hb90p => ?_) (fun hb90 hb90p => ?_)
     ·have hold : (es.getD (k) default).1 ∈ cl := hb90p ▸ getD_mem cl a oM
      refine wexit ?_
      refine wregion (mV (v := (iv k)) ((G34 6 rfl).trans ((hF31 6).trans hs14)) (rV (r_add (k := .i64) (a := (k : Int)) (b := 1) (c := (k : Int) + 1) rfl rfl (wi64 oM)) (aS (v := (iv ((k : Int) + 1))) rfl (RL.nil ?_))))
      refine hqn16 _ _ ?_
      replace hbl := hbl.ext (Ext.trans he40 he66)
      refine ⟨(k + 1, cl, vp), ⟨?_, ?_, ?_, ?_, ?_, ?_, ?_, ?_, ?_, ?_⟩, ?_⟩
      · exact (by repeat (first | exact G13 | refine Off.st ?_ dC _ | refine Off.via G34 dC ?_ | refine Off.eq hF31 ?_ | refine Off.via G5 dC ?_ | refine Off.eq hF2 ?_))
      · first | rfl | exact int_eq oM | exact bool_eq (by simp)
      · refine (((G34 3 rfl).trans ((hF31 3).trans hs15))).trans ?_
        first | rfl | exact int_eq oM | exact bool_eq (by simp)
      · omega
      · exact ix_old hkl hK hold
      · omega
      · exact hP
      · exact hes
      · exact hE
      · exact hbl
      (try dsimp only)
      omega
     have hne : a < cl.length → ¬ cl.getD a default = (es.getD (k) default).1 := fun h => by omega
     refine wskip ?_
     refine wseq ?_
     have hPo := hP.old
     have hlo : w.heap.size ≤ w65.heap.size := hE.size
     have hEk : Below w65.heap.size w65 w65 := Below.refl _ _
     refine wregion ?_
     refine rU (h_lit (vl := []) (cs := []) uT23 ty3 rfl dC (by first | (simp [Instr.fill, Value.cells]; done) | rfl | kernel_rfl)) ?_
     rintro _ w91 ⟨b92, rfl, hs95, hb94, he93⟩
     have ge_b92 := hE.ge hs95
     have gk_b92 := hEk.ge hs95
     replace hE := hE.nx he93
     replace hEk := hEk.nx he93
     have hQ := Oi.room (lo := w65.heap.size) hb94 gk_b92
     refine mV (v := vp) ((G34 3 rfl).trans ((hF31 3).trans hs15)) (mV hs35 ?_)
     replace hPo := hPo.tr (Sm.ext he93)
     have r96 := hPo.take (a) oM hv27
     refine rV (r_sh (h := (a : Int)) (kk := a) uT23 ty3 hv27 rfl oM oM) ?_
     refine rU (h_appendIs (v1 := (.slice (some ⟨b92, 0, none⟩) 0 0)) (v2 := (.slice A25 (a) (c26))) (xs := []) (ys := (cl.take (a))) uT23 ty3 rfl rfl rfl hQ r96 (by simp only [maxLen]; rw [List.length_take]; simp only [List.length_nil]; omega) (by rw [List.length_take]; simp only [List.length_nil]; omega) hEk.size) ?_
     rintro v98 w97 ⟨ho99, hg100⟩
     replace hE := hQ.gbe hg100 hE hlo hE.size
     replace hEk := hQ.gbe hg100 hEk (Nat.le_refl _) hEk.size
     refine aS (v := v98) rfl (RL.nil (wsr (mV (v := v98) rfl (mV (v := ves) ((G34 5 rfl).trans ((hF31 5).trans ((G13 5 rfl).trans (hF10 5)))) (mV (v := (iv k)) ((G34 6 rfl).trans ((hF31 6).trans hs14)) ?_)))))
     replace hes := (hes.tr (Sm.ext he93)).tr (hQ.gsm hg100 (fun b hb hd => absurd hd.2 (Nat.not_lt_of_le (Nat.le_trans hlo hb))))
     obtain ⟨b101, o102, c103, s108, A106, B107, x109, d110, hv104, hc105, hx111, lm112, ln113, hd114, lm115, ln116, eq117⟩ := hes.ix (i := (k : Int)) (k) oM oM
     refine rV (r_indexAddr (i := (k : Int)) uT22 ty55 hv104 rfl oM oM) (rV (r_fieldAddr uT55 rfl ty3 rfl) (rV (r_load (v := (iv ((es.getD (k) default).1))) uT3 ag3 rfl (hc105 0 _ rfl)) ?_))
     refine rU (h_lit (vl := [(0, (iv ((es.getD (k) default).1)))]) (cs := [(iv ((es.getD (k) default).1))]) uT23 ty3 rfl dC (by first | (simp [Instr.fill, Value.cells]; done) | rfl | kernel_rfl)) ?_
     rintro _ w118 ⟨b119, rfl, hs122, hb121, he120⟩
     have ge_b119 := hE.ge hs122
     replace hE := hE.nx he120
     replace hEk := hEk.nx he120
     replace ho99 := ho99.ext he120
     refine rU (h_appendI (v1 := v98) (v2 := (.slice (some ⟨b119, 0, none⟩) (1) (1))) (i0 := (es.getD (k) default).1) uT23 ty3 rfl rfl rfl ho99 (hb121.sc (D := fun _ _ => True) trivial rfl dC) (by simp only [maxLen]; simp only [List.length_append, List.length_nil, List.length_take]; omega) (by simp only [List.length_append, List.length_nil, List.length_take]; omega) hEk.size) ?_
     rintro v124 w123 ⟨ho125, hg126⟩
     replace hE := ho99.gbe hg126 hE hlo hE.size
     replace hEk := ho99.gbe hg126 hEk (Nat.le_refl _) hEk.size
     refine aS (v := v124) rfl (RL.nil (wregion (mV (v := v124) rfl (mV (v := vp) ((G34 3 rfl).trans ((hF31 3).trans hs15)) (mV hs35 ?_)))))
     replace hPo := ((hPo.tr (hQ.gsm hg100 (fun b hb hd => absurd hd.2 (Nat.not_lt_of_le hb)))).tr (Sm.ext he120)).tr (ho99.gsm hg126 (fun b hb hd => absurd hd.2 (Nat.not_lt_of_le hb)))
     have r127 := hPo.drop (a) oM hv27
     refine rV (r_sl (l := (a : Int)) (kk := a) uT23 ty3 hv27 rfl oM oM) ?_
     refine rU (h_appendIs (v1 := v124) (v2 := (.slice (if c26 = a then (A25 : Option Addr) else (A25 : Option Addr).map (·.add (a * 1))) (cl.length - a) (c26 - a))) (xs := (([] ++ (cl.take (a))) ++ [(es.getD (k) default).1])) (ys := (cl.drop (a))) uT23 ty3 rfl rfl rfl ho125 r127 (by simp only [maxLen]; simp only [List.length_append, List.length_nil, List.length_take, List.length_drop, List.length_singleton]; omega) (by simp only [List.length_append, List.length_nil, List.length_take, List.length_drop, List.length_singleton]; omega) hEk.size) ?_
     rintro v129 w128 ⟨ho130, hg131⟩
     replace hE := ho125.gbe hg131 hE hlo hE.size
     replace hEk := ho125.gbe hg131 hEk (Nat.le_refl _) hEk.size
     refine aS (v := v129) rfl (RL.nil (wregion (mV (v := (iv k)) ((G34 6 rfl).trans ((hF31 6).trans hs14)) (rV (r_add (k := .i64) (a := (k : Int)) (b := 1) (c := (k : Int) + 1) rfl rfl (wi64 oM)) (aS (v := (iv ((k : Int) + 1))) rfl (RL.nil ?_))))))
     refine hqn16 _ _ ?_
     replace hes := ((hes.tr (Sm.ext he120)).tr (ho99.gsm hg126 (fun b hb hd => absurd hd.2 (Nat.not_lt_of_le (Nat.le_trans hlo hb))))).tr (ho125.gsm hg131 (fun b hb hd => absurd hd.2 (Nat.not_lt_of_le (Nat.le_trans hlo hb))))
     have hm132 := Ext.trans he40 (Ext.trans he66 he93)
     replace hbl := ho125.gbk hg131 (ho99.gbk hg126 ((hQ.gbk hg100 (hbl.ext hm132) dC).ext he120) dC) dC
     refine ⟨(k + 1, ((([] ++ (cl.take (a))) ++ [(es.getD (k) default).1]) ++ (cl.drop (a))), v129), ⟨?_, ?_, ?_, ?_, ?_, ?_, ?_, ?_, ?_, ?_⟩, ?_⟩
     · exact (by repeat (first | exact G13 | refine Off.st ?_ dC _ | refine Off.via G34 dC ?_ | refine Off.eq hF31 ?_ | refine Off.via G5 dC ?_ | refine Off.eq hF2 ?_))
     · first | rfl | exact int_eq oM | exact bool_eq (by simp)
     · first | rfl | exact int_eq oM | exact bool_eq (by simp)
     · omega
     · exact ix_new hkl hK oM hlt (ge_dp hK.1 hge hne)
     · simp only [List.length_append, List.length_nil, List.length_take, List.length_drop, List.length_singleton]; omega
     · exact ho130.sg (fun _ h => Nat.le_trans hlo h)
     · exact hes
     · exact hE
     · exact hbl
     (try dsimp only)
     omega
    have hne : a < cl.length → ¬ cl.getD a default = (es.getD (k) default).1 := fun h => by omega
    refine aN 5 rfl rfl (.inl (bool_eq hb67)) ?_
    refine aN 6 rfl rfl (.inl (bool_eq hb67)) ?_
    refine aN 7 rfl rfl (.inl (bool_eq hb67)) ?_
    refine aN 8 rfl rfl (.inl (bool_eq hb67)) ?_
    refine aN 9 rfl rfl (.inl (bool_eq hb67)) ?_
    refine aN 10 rfl rfl (.inl (bool_eq hb67)) ?_
    refine aN 11 rfl rfl (.inl (bool_eq hb67)) ?_
    refine aN 12 rfl rfl (.inl (bool_eq hb67)) ?_
    refine aN 13 rfl rfl (.inl (bool_eq hb67)) ?_
    refine aN 14 rfl rfl (.inl (bool_eq hb67)) ?_
    refine ra 15 rfl (fun _ => r_pick_f (v := (.bool false)) (bool_eq hb67) rfl) ?_
    refine RA.done kR ?_
    refine wcond_f rfl ?_
    refine wskip ?_
    refine wseq ?_
    replace hP := hP.tr (Sm.ext he66)
    have hPo := hP.old
    have hlo : w.heap.size ≤ w65.heap.size := hE.size
    have hEk : Below w65.heap.size w65 w65 := Below.refl _ _
    refine wregion ?_
    refine rU (h_lit (vl := []) (cs := []) uT23 ty3 rfl dC (by first | (simp [Instr.fill, Value.cells]; done) | rfl | kernel_rfl)) ?_
    rintro _ w133 ⟨b134, rfl, hs137, hb136, he135⟩
    have ge_b134 := hE.ge hs137
    have gk_b134 := hEk.ge hs137
    replace hE := hE.nx he135
    replace hEk := hEk.nx he135
    have hQ := Oi.room (lo := w65.heap.size) hb136 gk_b134
    refine mV (v := vp) ((G34 3 rfl).trans ((hF31 3).trans hs15)) (mV hs35 ?_)
    replace hPo := hPo.tr (Sm.ext he135)
    have r138 := hPo.take (a) oM hv27
    refine rV (r_sh (h := (a : Int)) (kk := a) uT23 ty3 hv27 rfl oM oM) ?_
    refine rU (h_appendIs (v1 := (.slice (some ⟨b134, 0, none⟩) 0 0)) (v2 := (.slice A25 (a) (c26))) (xs := []) (ys := (cl.take (a))) uT23 ty3 rfl rfl rfl hQ r138 (by simp only [maxLen]; rw [List.length_take]; simp only [List.length_nil]; omega) (by rw [List.length_take]; simp only [List.length_nil]; omega) hEk.size) ?_
    rintro v140 w139 ⟨ho141, hg142⟩
    replace hE := hQ.gbe hg142 hE hlo hE.size
    replace hEk := hQ.gbe hg142 hEk (Nat.le_refl _) hEk.size
    refine aS (v := v140) rfl (RL.nil (wsr (mV (v := v140) rfl (mV (v := ves) ((G34 5 rfl).trans ((hF31 5).trans ((G13 5 rfl).trans (hF10 5)))) (mV (v := (iv k)) ((G34 6 rfl).trans ((hF31 6).trans hs14)) ?_)))))
    replace hes := (hes.tr (Sm.ext (Ext.trans he66 he135))).tr (hQ.gsm hg142 (fun b hb hd => absurd hd.2 (Nat.not_lt_of_le (Nat.le_trans hlo hb))))
    obtain ⟨b143, o144, c145, s150, A148, B149, x151, d152, hv146, hc147, hx153, lm154, ln155, hd156, lm157, ln158, eq159⟩ := hes.ix (i := (k : Int)) (k) oM oM
    refine rV (r_indexAddr (i := (k : Int)) uT22 ty55 hv146 rfl oM oM) (rV (r_fieldAddr uT55 rfl ty3 rfl) (rV (r_load (v := (iv ((es.getD (k) default).1))) uT3 ag3 rfl (hc147 0 _ rfl)) ?_))
    refine rU (h_lit (vl := [(0, (iv ((es.getD (k) default).1)))]) (cs := [(iv ((es.getD (k) default).1))]) uT23 ty3 rfl dC (by first | (simp [Instr.fill, Value.cells]; done) | rfl | kernel_rfl)) ?_
    rintro _ w160 ⟨b161, rfl, hs164, hb163, he162⟩
    have ge_b161 := hE.ge hs164
    replace hE := hE.nx he162
    replace hEk := hEk.nx he162
    replace ho141 := ho141.ext he162
    refine rU (h_appendI (v1 := v140) (v2 := (.slice (some ⟨b161, 0, none⟩) (1) (1))) (i0 := (es.getD (k) default).1) uT23 ty3 rfl rfl rfl ho141 (hb163.sc (D := fun _ _ => True) trivial rfl dC) (by simp only [maxLen]; simp only [List.length_append, List.length_nil, List.length_take]; omega) (by simp only [List.length_append, List.length_nil, List.length_take]; omega) hEk.size) ?_
    rintro v166 w165 ⟨ho167, hg168⟩
    replace hE := ho141.gbe hg168 hE hlo hE.size
    replace hEk := ho141.gbe hg168 hEk (Nat.le_refl _) hEk.size
    refine aS (v := v166) rfl (RL.nil (wregion (mV (v := v166) rfl (mV (v := vp) ((G34 3 rfl).trans ((hF31 3).trans hs15)) (mV hs35 ?_)))))
    replace hPo := ((hPo.tr (hQ.gsm hg142 (fun b hb hd => absurd hd.2 (Nat.not_lt_of_le hb)))).tr (Sm.ext he162)).tr (ho141.gsm hg168 (fun b hb hd => absurd hd.2 (Nat.not_lt_of_le hb)))
    have r169 := hPo.drop (a) oM hv27
    refine rV (r_sl (l := (a : Int)) (kk := a) uT23 ty3 hv27 rfl oM oM) ?_
    refine rU (h_appendIs (v1 := v166) (v2 := (.slice (if c26 = a then (A25 : Option Addr) else (A25 : Option Addr).map (·.add (a * 1))) (cl.length - a) (c26 - a))) (xs := (([] ++ (cl.take (a))) ++ [(es.getD (k) default).1])) (ys := (cl.drop (a))) uT23 ty3 rfl rfl rfl ho167 r169 (by simp only [maxLen]; simp only [List.length_append, List.length_nil, List.length_take, List.length_drop, List.length_singleton]; omega) (by simp only [List.length_append, List.length_nil, List.length_take, List.length_drop, List.length_singleton]; omega) hEk.size) ?_
    rintro v171 w170 ⟨ho172, hg173⟩
    replace hE := ho167.gbe hg173 hE hlo hE.size
    replace hEk := ho167.gbe hg173 hEk (Nat.le_refl _) hEk.size
    refine aS (v := v171) rfl (RL.nil (wregion (mV (v := (iv k)) ((G34 6 rfl).trans ((hF31 6).trans hs14)) (rV (r_add (k := .i64) (a := (k : Int)) (b := 1) (c := (k : Int) + 1) rfl rfl (wi64 oM)) (aS (v := (iv ((k : Int) + 1))) rfl (RL.nil ?_))))))
    refine hqn16 _ _ ?_
    replace hes := ((hes.tr (Sm.ext he162)).tr (ho141.gsm hg168 (fun b hb hd => absurd hd.2 (Nat.not_lt_of_le (Nat.le_trans hlo hb))))).tr (ho167.gsm hg173 (fun b hb hd => absurd hd.2 (Nat.not_lt_of_le (Nat.le_trans hlo hb))))
    have hm174 := Ext.trans he40 (Ext.trans he66 he135)
    replace hbl := ho167.gbk hg173 (ho141.gbk hg168 ((hQ.gbk hg142 (hbl.ext hm174) dC).ext he162) dC) dC
    refine ⟨(k + 1, ((([] ++ (cl.take (a))) ++ [(es.getD (k) default).1]) ++ (cl.drop (a))), v171), ⟨?_, ?_, ?_, ?_, ?_, ?_, ?_, ?_, ?_, ?_⟩, ?_⟩
    · exact (by repeat (first | exact G13 | refine Off.st ?_ dC _ | refine Off.via G34 dC ?_ | refine Off.eq hF31 ?_ | refine Off.via G5 dC ?_ | refine Off.eq hF2 ?_))
    · first | rfl | exact int_eq oM | exact bool_eq (by simp)
    · first | rfl | exact int_eq oM | exact bool_eq (by simp)
    · omega
    · exact ix_new hkl hK oM hlt (ge_dp hK.1 hge hne)
    · simp only [List.length_append, List.length_nil, List.length_take, List.length_drop, List.length_singleton]; omega
    · exact ho172.sg (fun _ h => Nat.le_trans hlo h)
    · exact hes
    · exact hE
    · exact hbl
    (try dsimp only)
    omega
   have hge : a < cl.length → (es.getD (k) default).1 ≤ cl.getD a default := fun h => by omega
   refine aN 5 rfl rfl (.inl (bool_eq hb41)) ?_
   refine aN 6 rfl rfl (.inl (bool_eq hb41)) ?_
   refine aN 7 rfl rfl (.inl (bool_eq hb41)) ?_
   refine aN 8 rfl rfl (.inl (bool_eq hb41)) ?_
   refine aN 9 rfl rfl (.inl (bool_eq hb41)) ?_
   refine aN 10 rfl rfl (.inl (bool_eq hb41)) ?_
   refine aN 11 rfl rfl (.inl (bool_eq hb41)) ?_
   refine aN 12 rfl rfl (.inl (bool_eq hb41)) ?_
   refine aN 13 rfl rfl (.inl (bool_eq hb41)) ?_
   refine aN 14 rfl rfl (.inl (bool_eq hb41)) ?_
   refine ra 15 rfl (fun _ => r_pick_f (v := (.bool false)) (bool_eq hb41) rfl) ?_
   refine RA.done kR ?_
   refine wcond_f rfl ?_
   refine wexit ?_
   refine hqe37 _ _ _ ?_
   refine wseq (wseq ?_)
   refine wdraw mixed fun w175 he176 => ?_
   replace hE := hE.nx he176
   refine aM 0 rfl (v := (iv a)) hs35 ?_
   refine aM 1 rfl (v := vp) ((G34 3 rfl).trans ((hF31 3).trans hs15)) ?_
   refine ra 2 rfl (fun _ => r_len uT23 hv27) ?_
   refine ra 3 rfl (fun _ => r_lss (k := .i64) (a := (a : Int)) (b := ((cl.length : Nat) : Int)) rfl rfl) ?_
   refine aM 4 rfl (v := (bd ((a : Int) < ((cl.length : Nat) : Int)))) rfl ?_
   rcases bD ((a : Int) < ((cl.length : Nat) : Int)) with ⟨hb177, hb177p⟩ | ⟨hb177, hb177p⟩
   ·refine aG 5 rfl rfl (bool_eq hb177) (fun _ => r_move_as (v := vp) ((G34 3 rfl).trans ((hF31 3).trans hs15))) ?_
    refine aG 6 rfl rfl (bool_eq hb177) (fun _ => r_move_as (v := (iv a)) hs35) ?_
    replace hP := hP.tr (Sm.ext (Ext.trans he40 he176))
    obtain ⟨b178, o179, c180, hv181, hc182⟩ := hP.ix (i := (a : Int)) (a) oM oM
    refine aG 7 rfl rfl (bool_eq hb177) (fun _ => r_indexAddr (i := (a : Int)) uT23 ty3 hv181 rfl oM oM) ?_
    refine RA.grd 8 rfl kR rfl rfl rfl (bool_eq hb177) rfl dC (Ext.refl _) (fun u hu => r_load (v := (iv (cl.getD (a) default))) uT3 ag3 rfl (cell_ext hu hc182)) ?_
    refine aG 9 rfl rfl (bool_eq hb177) (fun _ => r_move_as (v := ves) ((G34 5 rfl).trans ((hF31 5).trans ((G13 5 rfl).trans (hF10 5))))) ?_
    refine aG 10 rfl rfl (bool_eq hb177) (fun _ => r_move_as (v := (iv k)) ((G34 6 rfl).trans ((hF31 6).trans hs14))) ?_
    replace hes := hes.tr (Sm.ext (Ext.trans he40 he176))
    obtain ⟨b183, o184, c185, s190, A188, B189, x191, d192, hv186, hc187, hx193, lm194, ln195, hd196, lm197, ln198, eq199⟩ := hes.ix (i := (k : Int)) (k) oM oM
    refine aG 11 rfl rfl (bool_eq hb177) (fun _ => r_indexAddr (i := (k : Int)) uT22 ty55 hv186 rfl oM oM) ?_
    refine aG 12 rfl rfl (bool_eq hb177) (fun _ => r_fieldAddr uT55 rfl ty3 rfl) ?_
    refine RA.grd 13 rfl kR rfl rfl rfl (bool_eq hb177) rfl dC (Ext.refl _) (fun u hu => r_load (v := (iv ((es.getD (k) default).1))) uT3 ag3 rfl (cell_ext hu (hc187 0 _ rfl))) ?_
    refine aG 14 rfl rfl (bool_eq hb177) (fun _ => r_eql (k := .i64) (a := cl.getD (a) default) (b := (es.getD (k) default).1) rfl rfl) ?_
    refine ra 15 rfl (fun _ => r_pick_t (v := (bd ((cl.getD (a) default) = ((es.getD (k) default).1)))) (bool_eq hb177) rfl) ?_
    refine RA.done kR ?_
    refine wcD (p := (cl.getD (a) default) = ((es.getD (k) default).1)) rfl (fun hb200 hb200p => ?_) (fun hb200 hb200p => ?_)
    ·have hold : (es.getD (k) default).1 ∈ cl := hb200p ▸ getD_mem cl a oM
     refine wexit ?_
     refine wregion (mV (v := (iv k)) ((G34 6 rfl).trans ((hF31 6).trans hs14)) (rV (r_add (k := .i64) (a := (k : Int)) (b := 1) (c := (k : Int) + 1) rfl rfl (wi64 oM)) (aS (v := (iv ((k : Int) + 1))) rfl (RL.nil ?_))))
     refine hqn16 _ _ ?_
     replace hbl := hbl.ext (Ext.trans he40 he176)
     refine ⟨(k + 1, cl, vp), ⟨?_, ?_, ?_, ?_, ?_, ?_, ?_, ?_, ?_, ?_⟩, ?_⟩
     · exact (by repeat (first | exact G13 | refine Off.st ?_ dC _ | refine Off.via G34 dC ?_ | refine Off.eq hF31 ?_ | refine Off.via G5 dC ?_ | refine Off.eq hF2 ?_))
     · first | rfl | exact int_eq oM | exact bool_eq (by simp)
     · refine (((G34 3 rfl).trans ((hF31 3).trans hs15))).trans ?_
       first | rfl | exact int_eq oM | exact bool_eq (by simp)
     · omega
     · exact ix_old hkl hK hold
     · omega
     · exact hP
     · exact hes
     · exact hE
     · exact hbl
     (try dsimp only)
     omega
    have hne : a < cl.length → ¬ cl.getD a default = (es.getD (k) default).1 := fun h => by omega
    refine wskip ?_
    refine wseq ?_
    have hPo := hP.old
    have hlo : w.heap.size ≤ w175.heap.size := hE.size
    have hEk : Below w175.heap.size w175 w175 := Below.refl _ _
    refine wregion ?_
    refine rU (h_lit (vl := []) (cs := []) uT23 ty3 rfl dC (by first | (simp [Instr.fill, Value.cells]; done) | rfl | kernel_rfl)) ?_
    rintro _ w201 ⟨b202, rfl, hs205, hb204, he203⟩
    have ge_b202 := hE.ge hs205
    have gk_b202 := hEk.ge hs205
    replace hE := hE.nx he203
    replace hEk := hEk.nx he203
    have hQ := Oi.room (lo := w175.heap.size) hb204 gk_b202
    refine mV (v := vp) ((G34 3 rfl).trans ((hF31 3).trans hs15)) (mV hs35 ?_)
    replace hPo := hPo.tr (Sm.ext he203)
    have r206 := hPo.take (a) oM hv27
    refine rV (r_sh (h := (a : Int)) (kk := a) uT23 ty3 hv27 rfl oM oM) ?_
    refine rU (h_appendIs (v1 := (.slice (some ⟨b202, 0, none⟩) 0 0)) (v2 := (.slice A25 (a) (c26))) (xs := []) (ys := (cl.take (a))) uT23 ty3 rfl rfl rfl hQ r206 (by simp only [maxLen]; rw [List.length_take]; simp only [List.length_nil]; omega) (by rw [List.length_take]; simp only [List.length_nil]; omega) hEk.size) ?_
    rintro v208 w207 ⟨ho209, hg210⟩
    replace hE := hQ.gbe hg210 hE hlo hE.size
    replace hEk := hQ.gbe hg210 hEk (Nat.le_refl _) hEk.size
    refine aS (v := v208) rfl (RL.nil (wsr (mV (v := v208) rfl (mV (v := ves) ((G34 5 rfl).trans ((hF31 5).trans ((G13 5 rfl).trans (hF10 5)))) (mV (v := (iv k)) ((G34 6 rfl).trans ((hF31 6).trans hs14)) ?_)))))
    replace hes := (hes.tr (Sm.ext he203)).tr (hQ.gsm hg210 (fun b hb hd => absurd hd.2 (Nat.not_lt_of_le (Nat.le_trans hlo hb))))
    obtain ⟨b211, o212, c213, s218, A216, B217, x219, d220, hv214, hc215, hx221, lm222, ln223, hd224, lm225, ln226, eq227⟩ := hes.ix (i := (k : Int)) (k) oM oM
    refine rV (r_indexAddr (i := (k : Int)) uT22 ty55 hv214 rfl oM oM) (rV (r_fieldAddr uT55 rfl ty3 rfl) (rV (r_load (v := (iv ((es.getD (k) default).1))) uT3 ag3 rfl (hc215 0 _ rfl)) ?_))
    refine rU (h_lit (vl := [(0, (iv ((es.getD (k) default).1)))]) (cs := [(iv ((es.getD (k) default).1))]) uT23 ty3 rfl dC (by first | (simp [Instr.fill, Value.cells]; done) | rfl | kernel_rfl)) ?_
    rintro _ w228 ⟨b229, rfl, hs232, hb231, he230⟩
    have ge_b229 := hE.ge hs232
    replace hE := hE.nx he230
    replace hEk := hEk.nx he230
    replace ho209 := ho209.ext he230
    refine rU (h_appendI (v1 := v208) (v2 := (.slice (some ⟨b229, 0, none⟩) (1) (1))) (i0 := (es.getD (k) default).1) uT23 ty3 rfl rfl rfl ho209 (hb231.sc (D := fun _ _ => True) trivial rfl dC) (by simp only [maxLen]; simp only [List.length_append, List.length_nil, List.length_take]; omega) (by simp only [List.length_append, List.length_nil, List.length_take]; omega) hEk.size) ?_
    rintro v234 w233 ⟨ho235, hg236⟩
    replace hE := ho209.gbe hg236 hE hlo hE.size
    replace hEk := ho209.gbe hg236 hEk (Nat.le_refl _) hEk.size
    refine aS (v := v234) rfl (RL.nil (wregion (mV (v := v234) rfl (mV (v := vp) ((G34 3 rfl).trans ((hF31 3).trans hs15)) (mV hs35 ?_)))))
    replace hPo := ((hPo.tr (hQ.gsm hg210 (fun b hb hd => absurd hd.2 (Nat.not_lt_of_le hb)))).tr (Sm.ext he230)).tr (ho209.gsm hg236 (fun b hb hd => absurd hd.2 (Nat.not_lt_of_le hb)))
    have r237 := hPo.drop (a) oM hv27
    refine rV (r_sl (l := (a : Int)) (kk := a) uT23 ty3 hv27 rfl oM oM) ?_
    refine rU (h_appendIs (v1 := v234) (v2 := (.slice (if c26 = a then (A25 : Option Addr) else (A25 : Option Addr).map (·.add (a * 1))) (cl.length - a) (c26 - a))) (xs := (([] ++ (cl.take (a))) ++ [(es.getD (k) default).1])) (ys := (cl.drop (a))) uT23 ty3 rfl rfl rfl ho235 r237 (by simp only [maxLen]; simp only [List.length_append, List.length_nil, List.length_take, List.length_drop, List.length_singleton]; omega) (by simp only [List.length_append, List.length_nil, List.length_take, List.length_drop, List.length_singleton]; omega) hEk.size) ?_
    rintro v239 w238 ⟨ho240, hg241⟩
    replace hE := ho235.gbe hg241 hE hlo hE.size
    replace hEk := ho235.gbe hg241 hEk (Nat.le_refl _) hEk.size
    refine aS (v := v239) rfl (RL.nil (wregion (mV (v := (iv k)) ((G34 6 rfl).trans ((hF31 6).trans hs14)) (rV (r_add (k := .i64) (a := (k : Int)) (b := 1) (c := (k : Int) + 1) rfl rfl (wi64 oM)) (aS (v := (iv ((k : Int) + 1))) rfl (RL.nil ?_))))))
    refine hqn16 _ _ ?_
    replace hes := ((hes.tr (Sm.ext he230)).tr (ho209.gsm hg236 (fun b hb hd => absurd hd.2 (Nat.not_lt_of_le (Nat.le_trans hlo hb))))).tr (ho235.gsm hg241 (fun b hb hd => absurd hd.2 (Nat.not_lt_of_le (Nat.le_trans hlo hb))))
    have hm242 := Ext.trans he40 (Ext.trans he176 he203)
    replace hbl := ho235.gbk hg241 (ho209.gbk hg236 ((hQ.gbk hg210 (hbl.ext hm242) dC).ext he230) dC) dC
    refine ⟨(k + 1, ((([] ++ (cl.take (a))) ++ [(es.getD (k) default).1]) ++ (cl.drop (a))), v239), ⟨?_, ?_, ?_, ?_, ?_, ?_, ?_, ?_, ?_, ?_⟩, ?_⟩
    · exact (by repeat (first | exact G13 | refine Off.st ?_ dC _ | refine Off.via G34 dC ?_ | refine Off.eq hF31 ?_ | refine Off.via G5 dC ?_ | refine Off.eq hF2 ?_))
    · first | rfl | exact int_eq oM | exact bool_eq (by simp)
    · first | rfl | exact int_eq oM | exact bool_eq (by simp)
    · omega
    · exact ix_new hkl hK oM hlt (ge_dp hK.1 hge hne)
    · simp only [List.length_append, List.length_nil, List.length_take, List.length_drop, List.length_singleton]; omega
    · exact ho240.sg (fun _ h => Nat.le_trans hlo h)
    · exact hes
    · exact hE
    · exact hbl
    (try dsimp only)
    omega
   have hne : a < cl.length → ¬ cl.getD a default = (es.getD (k) default).1 := fun h => by omega
   refine aN 5 rfl rfl (.inl (bool_eq hb177)) ?_
   refine aN 6 rfl rfl (.inl (bool_eq hb177)) ?_
   refine aN 7 rfl rfl (.inl (bool_eq hb177)) ?_
   refine aN 8 rfl rfl (.inl (bool_eq hb177)) ?_
   refine aN 9 rfl rfl (.inl (bool_eq hb177)) ?_
   refine aN 10 rfl rfl (.inl (bool_eq hb177)) ?_
   refine aN 11 rfl rfl (.inl (bool_eq hb177)) ?_
   refine aN 12 rfl rfl (.inl (bool_eq hb177)) ?_
   refine aN 13 rfl rfl (.inl (bool_eq hb177)) ?_
   refine aN 14 rfl rfl (.inl (bool_eq hb177)) ?_
   refine ra 15 rfl (fun _ => r_pick_f (v := (.bool false)) (bool_eq hb177) rfl) ?_
   refine RA.done kR ?_
   refine wcond_f rfl ?_
   refine wskip ?_
   refine wseq ?_
   replace hP := hP.tr (Sm.ext (Ext.trans he40 he176))
   have hPo := hP.old
   have hlo : w.heap.size ≤ w175.heap.size := hE.size
   have hEk : Below w175.heap.size w175 w175 := Below.refl _ _
   refine wregion ?_
   refine rU (h_lit (vl := []) (cs := []) uT23 ty3 rfl dC (by first | (simp [Instr.fill, Value.cells]; done) | rfl | kernel_rfl)) ?_
   rintro _ w243 ⟨b244, rfl, hs247, hb246, he245⟩
   have ge_b244 := hE.ge hs247
   have gk_b244 := hEk.ge hs247
   replace hE := hE.nx he245
   replace hEk := hEk.nx he245
   have hQ := Oi.room (lo := w175.heap.size) hb246 gk_b244
   refine mV (v := vp) ((G34 3 rfl).trans ((hF31 3).trans hs15)) (mV hs35 ?_)
   replace hPo := hPo.tr (Sm.ext he245)
   have r248 := hPo.take (a) oM hv27
   refine rV (r_sh (h := (a : Int)) (kk := a) uT23 ty3 hv27 rfl oM oM) ?_
   refine rU (h_appendIs (v1 := (.slice (some ⟨b244, 0, none⟩) 0 0)) (v2 := (.slice A25 (a) (c26))) (xs := []) (ys := (cl.take (a))) uT23 ty3 rfl rfl rfl hQ r248 (by simp only [maxLen]; rw [List.length_take]; simp only [List.length_nil]; omega) (by rw [List.length_take]; simp only [List.length_nil]; omega) hEk.size) ?_
   rintro v250 w249 ⟨ho251, hg252⟩
   replace hE := hQ.gbe hg252 hE hlo hE.size
   replace hEk := hQ.gbe hg252 hEk (Nat.le_refl _) hEk.size
   refine aS (v := v250) rfl (RL.nil (wsr (mV (v := v250) rfl (mV (v := ves) ((G34 5 rfl).trans ((hF31 5).trans ((G13 5 rfl).trans (hF10 5)))) (mV (v := (iv k)) ((G34 6 rfl).trans ((hF31 6).trans hs14)) ?_)))))
   have hm270 := Ext.trans he40 (Ext.trans he176 he245)
   replace hes := (hes.tr (Sm.ext hm270)).tr (hQ.gsm hg252 (fun b hb hd => absurd hd.2 (Nat.not_lt_of_le (Nat.le_trans hlo hb))))
   obtain ⟨b253, o254, c255, s260, A258, B259, x261, d262, hv256, hc257, hx263, lm264, ln265, hd266, lm267, ln268, eq269⟩ := hes.ix (i := (k : Int)) (k) oM oM
   refine rV (r_indexAddr (i := (k : Int)) uT22 ty55 hv256 rfl oM oM) (rV (r_fieldAddr uT55 rfl ty3 rfl) (rV (r_load (v := (iv ((es.getD (k) default).1))) uT3 ag3 rfl (hc257 0 _ rfl)) ?_))
   refine rU (h_lit (vl := [(0, (iv ((es.getD (k) default).1)))]) (cs := [(iv ((es.getD (k) default).1))]) uT23 ty3 rfl dC (by first | (simp [Instr.fill, Value.cells]; done) | rfl | kernel_rfl)) ?_
   rintro _ w271 ⟨b272, rfl, hs275, hb274, he273⟩
   have ge_b272 := hE.ge hs275
   replace hE := hE.nx he273
   replace hEk := hEk.nx he273
   replace ho251 := ho251.ext he273
   refine rU (h_appendI (v1 := v250) (v2 := (.slice (some ⟨b272, 0, none⟩) (1) (1))) (i0 := (es.getD (k) default).1) uT23 ty3 rfl rfl rfl ho251 (hb274.sc (D := fun _ _ => True) trivial rfl dC) (by simp only [maxLen]; simp only [List.length_append, List.length_nil, List.length_take]; omega) (by simp only [List.length_append, List.length_nil, List.length_take]; omega) hEk.size) ?_
   rintro v277 w276 ⟨ho278, hg279⟩
   replace hE := ho251.gbe hg279 hE hlo hE.size
   replace hEk := ho251.gbe hg279 hEk (Nat.le_refl _) hEk.size
   refine aS (v := v277) rfl (RL.nil (wregion (mV (v := v277) rfl (mV (v := vp) ((G34 3 rfl).trans ((hF31 3).trans hs15)) (mV hs35 ?_)))))
   replace hPo := ((hPo.tr (hQ.gsm hg252 (fun b hb hd => absurd hd.2 (Nat.not_lt_of_le hb)))).tr (Sm.ext he273)).tr (ho251.gsm hg279 (fun b hb hd => absurd hd.2 (Nat.not_lt_of_le hb)))
   have r280 := hPo.drop (a) oM hv27
   refine rV (r_sl (l := (a : Int)) (kk := a) uT23 ty3 hv27 rfl oM oM) ?_
   refine rU (h_appendIs (v1 := v277) (v2 := (.slice (if c26 = a then (A25 : Option Addr) else (A25 : Option Addr).map (·.add (a * 1))) (cl.length - a) (c26 - a))) (xs := (([] ++ (cl.take (a))) ++ [(es.getD (k) default).1])) (ys := (cl.drop (a))) uT23 ty3 rfl rfl rfl ho278 r280 (by simp only [maxLen]; simp only [List.length_append, List.length_nil, List.length_take, List.length_drop, List.length_singleton]; omega) (by simp only [List.length_append, List.length_nil, List.length_take, List.length_drop, List.length_singleton]; omega) hEk.size) ?_
   rintro v282 w281 ⟨ho283, hg284⟩
   replace hE := ho278.gbe hg284 hE hlo hE.size
   replace hEk := ho278.gbe hg284 hEk (Nat.le_refl _) hEk.size
   refine aS (v := v282) rfl (RL.nil (wregion (mV (v := (iv k)) ((G34 6 rfl).trans ((hF31 6).trans hs14)) (rV (r_add (k := .i64) (a := (k : Int)) (b := 1) (c := (k : Int) + 1) rfl rfl (wi64 oM)) (aS (v := (iv ((k : Int) + 1))) rfl (RL.nil ?_))))))
   refine hqn16 _ _ ?_
   replace hes := ((hes.tr (Sm.ext he273)).tr (ho251.gsm hg279 (fun b hb hd => absurd hd.2 (Nat.not_lt_of_le (Nat.le_trans hlo hb))))).tr (ho278.gsm hg284 (fun b hb hd => absurd hd.2 (Nat.not_lt_of_le (Nat.le_trans hlo hb))))
   replace hbl := ho278.gbk hg284 (ho251.gbk hg279 ((hQ.gbk hg252 (hbl.ext hm270) dC).ext he273) dC) dC
   refine ⟨(k + 1, ((([] ++ (cl.take (a))) ++ [(es.getD (k) default).1]) ++ (cl.drop (a))), v282), ⟨?_, ?_, ?_, ?_, ?_, ?_, ?_, ?_, ?_, ?_⟩, ?_⟩
   · exact (by repeat (first | exact G13 | refine Off.st ?_ dC _ | refine Off.via G34 dC ?_ | refine Off.eq hF31 ?_ | refine Off.via G5 dC ?_ | refine Off.eq hF2 ?_))
   · first | rfl | exact int_eq oM | exact bool_eq (by simp)
   · first | rfl | exact int_eq oM | exact bool_eq (by simp)
   · omega
   · exact ix_new hkl hK oM hlt (ge_dp hK.1 hge hne)
   · simp only [List.length_append, List.length_nil, List.length_take, List.length_drop, List.length_singleton]; omega
   · exact ho283.sg (fun _ h => Nat.le_trans hlo h)
   · exact hes
   · exact hE
   · exact hbl
   (try dsimp only)
   omega
  refine wexit ?_
  refine hqe17 _ _ _ ?_
  refine wregion (rV (r_add (k := .i64) (a := (j : Int)) (b := 1) (c := (j : Int) + 1) ((G13 11 rfl).trans ((hF10 11).trans hs6)) rfl (wi64 oM)) (mV (v := (iv ((j : Int) + 1))) rfl (RL.nil ?_)))
  refine ⟨(j + 1, cl, vp), ⟨?_, ?_, ?_, ?_, ?_, ?_, ?_, ?_, ?_, ?_⟩, ?_⟩
  · exact (by repeat (first | exact G5 | refine Off.st ?_ dC _ | refine Off.via G13 dC ?_ | refine Off.eq hF10 ?_))
  · first | rfl | exact int_eq oM | exact bool_eq (by simp)
  · refine (hs15).trans ?_
    first | rfl | exact int_eq oM | exact bool_eq (by simp)
  · omega
  · rw [show (j + 1) * es.length = es.length by rw [show j = 0 by omega]; omega, List.take_of_length_le (Nat.le_refl _)]; rw [List.take_of_length_le oM] at hK; exact hK
  · omega
  · exact hP
  · exact hes
  · exact hE
  · exact hbl
  (try dsimp only)
  omega
 refine wexit ?_
 refine wsr (mV hs7 (aS (v := vp) rfl (RL.nil ?_)))
 refine wret ?_
 refine ⟨[vp], ⟨rfl, trivial⟩, ?_⟩
 rw [show j * es.length = es.length by rw [show j = 1 by omega]; omega, List.take_of_length_le (Nat.le_refl _)] at hI
 exact ⟨⟨cl, hI, hcl, hP⟩, hE⟩
end Go.Proofs.YtelbjmhhbeijkaaGreat
namespace Go.Proofs.YtelbjmhhbeijkaaGreat
open Go.Vg Go.RowKit _root_.Go.Proofs.Tryz
set_option linter.unusedVariables false
open Go.Vm
set_option maxHeartbeats 4000000 in
theorem r03_add {w : World} {sx : Bool} {Dx Ex : Nat → TypeId → Prop} {vx ux : Value} {x dx : List Nat} (hx : Sg (gN .u32) Dx w vx x) (lmx : Lm x) (lnx : x.length ≤ 17179869184) (hdx : Sg (gN .u32) Ex w ux dx) (lmdx : Lm dx) (lndx : dx.length ≤ 17179869184) {qx : Rat} (ex : ratOf sx (val x) (val dx) = qx) {sy : Bool} {Dy Ey : Nat → TypeId → Prop} {vy uy : Value} {y dy : List Nat} (hy : Sg (gN .u32) Dy w vy y) (lmy : Lm y) (lny : y.length ≤ 17179869184) (hdy : Sg (gN .u32) Ey w uy dy) (lmdy : Lm dy) (lndy : dy.length ≤ 17179869184) {qy : Rat} (ey : ratOf sy (val y) (val dy) = qy) :
    Calls Tryz.prog 63 #[(.agg #[(.bool sx), vx, ux]), (.agg #[(.bool sy), vy, uy])] w fun e w' => ∃ v, e = .returned v ∧ (∃ vn vd, v = .agg #[.bool (decide ((qx + qy).num < 0)), vn, vd] ∧ Sg (gN .u32) (fun b T => w.heap.size ≤ b ∧ T = 89) w' vn (digs (qx + qy).num.natAbs) ∧ Sg (gN .u32) (fun b T => w.heap.size ≤ b ∧ T = 89) w' vd (digs (qx + qy).den) ∧ (digs (qx + qy).num.natAbs).length ≤ max (x.length + dy.length) (y.length + dx.length) + 2 ∧ (digs (qx + qy).den).length ≤ dx.length + dy.length + 3) ∧ Ext w w' := by
 have hE : Below w.heap.size w w := Below.refl _ _
 have hlqx := rl_of lmx lmdx ex
 have hdqx := den_one qx
 have hlqy := rl_of lmy lmdy ey
 have hdqy := den_one qy
 refine calls_of (n := 28) (rs := [.cell 4 44]) func63 rfl rfl rfl bL ?_
 refine wset fun F0 hF0 => ?_
 refine wsr ?_
 refine rU (h_bxA (cs := [(.bool sx), vx, ux]) (hF0 0) rfl) ?_
 rintro _ w1 ⟨b2, rfl, hs5, hb4, he3⟩
 have ge_b2 := hE.ge hs5
 replace hE := hE.nx he3
 refine rU (h_bxA (cs := [(.bool sy), vy, uy]) (hF0 1) rfl) ?_
 rintro _ w6 ⟨b7, rfl, hs10, hb9, he8⟩
 have lt_b2_b7 := Nat.lt_of_lt_of_eq hb4.lt hs10.symm
 have ge_b7 := hE.ge hs10
 replace hE := hE.nx he8
 refine rU (h_alloc (cs := [(.bool false), (.slice none 0 0), (.slice none 0 0)]) ty44 rfl) ?_
 rintro _ w11 ⟨b12, rfl, hs15, hb14, he13⟩
 have lt_b7_b12 := Nat.lt_of_lt_of_eq hb9.lt hs15.symm
 have ge_b12 := hE.ge hs15
 replace hE := hE.nx he13
 refine RL.nil ?_
 refine wset fun F16 hF17 => ?_
 refine wcut (fun fl wl => ∃ b44 : Nat, ∃ b50 : Nat, ∃ vn25 : Value, ∃ vd27 : Value, ∃ vn35 : Value, ∃ vd37 : Value, Off [5, 6, 7, 8, 9, 10] F16 fl ∧ fl 5 = (.pointer (some ⟨b44, 0, none⟩)) ∧ fl 6 = (.pointer (some ⟨b50, 0, none⟩)) ∧ (w.heap.size ≤ b44) ∧ (b12 < b44) ∧ (w.heap.size ≤ b50) ∧ (b12 < b50) ∧ (b44 ≠ b50) ∧ (Sg (gN .u32) Dx wl vx x) ∧ (Sg (gN .u32) Dy wl vy y) ∧ (Sg (gN .u32) Ex wl ux dx) ∧ (Sg (gN .u32) Ey wl uy dy) ∧ (Below w.heap.size w wl) ∧ (Bk wl b2 44 [(.bool sx), vx, ux]) ∧ (Bk wl b7 44 [(.bool sy), vy, uy]) ∧ (Bk wl b12 44 [(.bool false), (.slice none 0 0), (.slice none 0 0)]) ∧ (Sg (gN .u32) (fun b T => w.heap.size ≤ b ∧ T = 89) wl vn25 (digs qx.num.natAbs)) ∧ (Sg (gN .u32) (fun b T => w.heap.size ≤ b ∧ T = 89) wl vd27 (digs qx.den)) ∧ (Sg (gN .u32) (fun b T => w.heap.size ≤ b ∧ T = 89) wl vn35 (digs qy.num.natAbs)) ∧ (Sg (gN .u32) (fun b T => w.heap.size ≤ b ∧ T = 89) wl vd37 (digs qy.den)) ∧ (Bk wl b44 44 [(bd (qx.num < 0)), vn25, vd27]) ∧ (Bk wl b50 44 [(bd (qy.num < 0)), vn35, vd37])) ?_ ?_
 ·have G62 := Off.refl [5, 6, 7, 8, 9, 10] F16
  refine wdraw mixed fun w63 he64 => ?_
  replace hE := hE.nx he64
  have hm66 := Ext.trans he8 (Ext.trans he13 he64)
  replace hb4 := hb4.ext hm66
  have hc65 := hb4.cells (o := 0) (cs := [(.bool sx), vx, ux]) rfl
  refine aR 0 rfl (fun u hu => r_loada (o := 0) (cs := [(.bool sx), vx, ux]) uT44 ag44 ty44 (hF17 2) (fun j v hj => cell_ext hu (hc65 j v hj))) ?_
  replace hb9 := hb9.ext (Ext.trans he13 he64)
  have hc67 := hb9.cells (o := 0) (cs := [(.bool sy), vy, uy]) rfl
  refine aR 2 rfl (fun u hu => r_loada (o := 0) (cs := [(.bool sy), vy, uy]) uT44 ag44 ty44 (hF17 3) (fun j v hj => cell_ext hu (hc67 j v hj))) ?_
  refine RA.all [1, 4, 5] kR rfl ?_
  have hm76 := Ext.trans he3 (Ext.trans he8 (Ext.trans he13 he64))
  replace hx := hx.tr (Sm.ext hm76)
  replace hdx := hdx.tr (Sm.ext hm76)
  refine RS.call rfl rfl rfl dC (r_call (vl := [(.agg #[(.bool sx), vx, ux])]) ent48 rfl) (r03_norm hx (by assumption) oS hdx (by assumption) oS (show ratOf sx (val x) (val dx) = qx from ex)) ?_ ?_
  ·rintro _ w68 ⟨⟨vn70, vd72, rfl, hn71, hd73, hl74, hl75⟩, he69⟩
   refine rm he69 ?_
   have hlv77 := den_one qx
   replace hn71 := hn71.fr hE
   replace hd73 := hd73.fr hE
   replace hE := hE.nx he69
   refine RA.all [3, 4, 5] kR rfl ?_
   have hm86 := Ext.trans hm76 he69
   replace hy := hy.tr (Sm.ext hm86)
   replace hdy := hdy.tr (Sm.ext hm86)
   refine RS.call rfl rfl rfl dC (r_call (vl := [(.agg #[(.bool sy), vy, uy])]) ent48 rfl) (r03_norm hy (by assumption) oS hdy (by assumption) oS (show ratOf sy (val y) (val dy) = qy from ey)) ?_ ?_
   ·rintro _ w78 ⟨⟨vn80, vd82, rfl, hn81, hd83, hl84, hl85⟩, he79⟩
    refine rm he79 ?_
    have hlv87 := den_one qy
    replace hn81 := hn81.fr hE
    replace hd83 := hd83.fr hE
    replace hE := hE.nx he79
    refine RA.all [4, 5] kR rfl ?_
    refine RS.run rfl rfl rfl dC (h_alloc (cs := [(.bool false), (.slice none 0 0), (.slice none 0 0)]) ty44 rfl) ?_ ?_
    ·rintro _ w88 ⟨b89, rfl, hs92, hb91, he90⟩
     refine rm he90 ?_
     have hm93 := Ext.trans he64 (Ext.trans he69 he79)
     replace hb14 := hb14.ext hm93
     have lt_b12_b89 := Nat.lt_of_lt_of_eq hb14.lt hs92.symm
     have ge_b89 := hE.ge hs92
     replace hE := hE.nx he90
     refine RA.all [5] kR rfl ?_
     refine RS.run rfl rfl rfl dC (h_alloc (cs := [(.bool false), (.slice none 0 0), (.slice none 0 0)]) ty44 rfl) ?_ RS.nil
     rintro _ w94 ⟨b95, rfl, hs98, hb97, he96⟩
     refine rm he96 ?_
     have lt_b89_b95 := Nat.lt_of_lt_of_eq hb91.lt hs98.symm
     have ge_b95 := hE.ge hs98
     refine RA.all [6] kR rfl ?_
     replace hb91 := hb91.ext he96
     refine RS.runs rfl rfl rfl (h_stA (cs := [(bd (qx.num < 0)), vn70, vd72]) (o := 0) ty44 rfl rfl rfl rfl (one_cons rfl (one_cons hn71.one (one_cons hd73.one one_nil))) hb91 bL) ?_ RS.nil
     rintro w99 ⟨hn100, hx101, hz102⟩
     refine ⟨.inr (.inl kR), ?_⟩
     have nb_hx101 := (Nb.of hb91 (nu_cons rfl (nu_cons rfl (nu_cons rfl nu_nil))))
     replace hb91 : Bk w99 b89 44 [(bd (qx.num < 0)), vn70, vd72] := hn100
     refine RA.all [7] kR rfl ?_
     replace hb97 := hb97.exc hx101 (Nat.ne_of_gt lt_b89_b95)
     refine RS.runs rfl rfl rfl (h_stA (cs := [(bd (qy.num < 0)), vn80, vd82]) (o := 0) ty44 rfl rfl rfl rfl (one_cons rfl (one_cons hn81.one (one_cons hd83.one one_nil))) hb97 bL) ?_ RS.nil
     rintro w103 ⟨hn104, hx105, hz106⟩
     refine ⟨.inr (.inl kR), ?_⟩
     replace hE := ((hE.nx he96).nb hx101 ge_b89).nb hx105 ge_b95
     have nb_hx105 := (Nb.of hb97 (nu_cons rfl (nu_cons rfl (nu_cons rfl nu_nil))))
     replace hb97 : Bk w103 b95 44 [(bd (qy.num < 0)), vn80, vd82] := hn104
     refine RA.done kR ?_
     have hm107 := Ext.trans he69 (Ext.trans he79 (Ext.trans he90 he96))
     replace hx := ((hx.tr (Sm.ext hm107)).apn hx101 nb_hx101).apn hx105 nb_hx105
     have hm108 := Ext.trans he79 (Ext.trans he90 he96)
     replace hy := ((hy.tr (Sm.ext hm108)).apn hx101 nb_hx101).apn hx105 nb_hx105
     replace hdx := ((hdx.tr (Sm.ext hm107)).apn hx101 nb_hx101).apn hx105 nb_hx105
     replace hdy := ((hdy.tr (Sm.ext hm108)).apn hx101 nb_hx101).apn hx105 nb_hx105
     replace hb4 := ((hb4.ext hm107).exc hx101 (Nat.ne_of_lt (Nat.lt_trans lt_b2_b7 (Nat.lt_trans lt_b7_b12 lt_b12_b89)))).exc hx105 (Nat.ne_of_lt (Nat.lt_trans lt_b2_b7 (Nat.lt_trans lt_b7_b12 (Nat.lt_trans lt_b12_b89 lt_b89_b95))))
     replace hb9 := ((hb9.ext hm107).exc hx101 (Nat.ne_of_lt (Nat.lt_trans lt_b7_b12 lt_b12_b89))).exc hx105 (Nat.ne_of_lt (Nat.lt_trans lt_b7_b12 (Nat.lt_trans lt_b12_b89 lt_b89_b95)))
     replace hb14 := ((hb14.ext (Ext.trans he90 he96)).exc hx101 (Nat.ne_of_lt lt_b12_b89)).exc hx105 (Nat.ne_of_lt (Nat.lt_trans lt_b12_b89 lt_b89_b95))
     replace hn71 := ((hn71.tr (Sm.ext hm108)).apn hx101 nb_hx101).apn hx105 nb_hx105
     replace hd73 := ((hd73.tr (Sm.ext hm108)).apn hx101 nb_hx101).apn hx105 nb_hx105
     replace hn81 := ((hn81.tr (Sm.ext (Ext.trans he90 he96))).apn hx101 nb_hx101).apn hx105 nb_hx105
     replace hd83 := ((hd83.tr (Sm.ext (Ext.trans he90 he96))).apn hx101 nb_hx101).apn hx105 nb_hx105
     replace hb91 := hb91.exc hx105 (Nat.ne_of_lt lt_b89_b95)
     refine ⟨b89, b95, vn70, vd72, vn80, vd82, ?_, ?_, ?_, ?_, ?_, ?_, ?_, ?_, ?_, ?_, ?_, ?_, ?_, ?_, ?_, ?_, ?_, ?_, ?_, ?_, ?_, ?_⟩
     · exact (by repeat (first | exact G62 | refine Off.st ?_ dC _))
     · exact rfl
     · exact rfl
     · exact ge_b89
     · exact lt_b12_b89
     · exact ge_b95
     · exact (Nat.lt_trans lt_b12_b89 lt_b89_b95)
     · exact (Nat.ne_of_lt lt_b89_b95)
     · exact hx
     · exact hy
     · exact hdx
     · exact hdy
     · exact hE
     · exact hb4
     · exact hb9
     · exact hb14
     · exact hn71
     · exact hd73
     · exact hn81
     · exact hd83
     · exact hb91
     exact hb97
    refine RS.run rfl rfl rfl dC (h_alloc (cs := [(.bool false), (.slice none 0 0), (.slice none 0 0)]) ty44 rfl) ?_ RS.nil
    rintro _ w109 ⟨b110, rfl, hs113, hb112, he111⟩
    refine rm he111 ?_
    have hm114 := Ext.trans he64 (Ext.trans he69 he79)
    replace hb14 := hb14.ext hm114
    have lt_b12_b110 := Nat.lt_of_lt_of_eq hb14.lt hs113.symm
    have ge_b110 := hE.ge hs113
    replace hE := hE.nx he111
    refine RA.all [4] kR rfl ?_
    refine RS.run rfl rfl rfl dC (h_alloc (cs := [(.bool false), (.slice none 0 0), (.slice none 0 0)]) ty44 rfl) ?_ RS.nil
    rintro _ w115 ⟨b116, rfl, hs119, hb118, he117⟩
    refine rm he117 ?_
    have lt_b110_b116 := Nat.lt_of_lt_of_eq hb112.lt hs119.symm
    have ge_b116 := hE.ge hs119
    refine RA.all [6] kR rfl ?_
    refine RS.runs rfl rfl rfl (h_stA (cs := [(bd (qx.num < 0)), vn70, vd72]) (o := 0) ty44 rfl rfl rfl rfl (one_cons rfl (one_cons hn71.one (one_cons hd73.one one_nil))) hb118 bL) ?_ RS.nil
    rintro w120 ⟨hn121, hx122, hz123⟩
    refine ⟨.inr (.inl kR), ?_⟩
    have nb_hx122 := (Nb.of hb118 (nu_cons rfl (nu_cons rfl (nu_cons rfl nu_nil))))
    replace hb118 : Bk w120 b116 44 [(bd (qx.num < 0)), vn70, vd72] := hn121
    refine RA.all [7] kR rfl ?_
    replace hb112 := (hb112.ext he117).exc hx122 (Nat.ne_of_lt lt_b110_b116)
    refine RS.runs rfl rfl rfl (h_stA (cs := [(bd (qy.num < 0)), vn80, vd82]) (o := 0) ty44 rfl rfl rfl rfl (one_cons rfl (one_cons hn81.one (one_cons hd83.one one_nil))) hb112 bL) ?_ RS.nil
    rintro w124 ⟨hn125, hx126, hz127⟩
    refine ⟨.inr (.inl kR), ?_⟩
    replace hE := ((hE.nx he117).nb hx122 ge_b116).nb hx126 ge_b110
    have nb_hx126 := (Nb.of hb112 (nu_cons rfl (nu_cons rfl (nu_cons rfl nu_nil))))
    replace hb112 : Bk w124 b110 44 [(bd (qy.num < 0)), vn80, vd82] := hn125
    refine RA.done kR ?_
    have hm128 := Ext.trans he69 (Ext.trans he79 (Ext.trans he111 he117))
    replace hx := ((hx.tr (Sm.ext hm128)).apn hx122 nb_hx122).apn hx126 nb_hx126
    have hm129 := Ext.trans he79 (Ext.trans he111 he117)
    replace hy := ((hy.tr (Sm.ext hm129)).apn hx122 nb_hx122).apn hx126 nb_hx126
    replace hdx := ((hdx.tr (Sm.ext hm128)).apn hx122 nb_hx122).apn hx126 nb_hx126
    replace hdy := ((hdy.tr (Sm.ext hm129)).apn hx122 nb_hx122).apn hx126 nb_hx126
    replace hb4 := ((hb4.ext hm128).exc hx122 (Nat.ne_of_lt (Nat.lt_trans lt_b2_b7 (Nat.lt_trans lt_b7_b12 (Nat.lt_trans lt_b12_b110 lt_b110_b116))))).exc hx126 (Nat.ne_of_lt (Nat.lt_trans lt_b2_b7 (Nat.lt_trans lt_b7_b12 lt_b12_b110)))
    replace hb9 := ((hb9.ext hm128).exc hx122 (Nat.ne_of_lt (Nat.lt_trans lt_b7_b12 (Nat.lt_trans lt_b12_b110 lt_b110_b116)))).exc hx126 (Nat.ne_of_lt (Nat.lt_trans lt_b7_b12 lt_b12_b110))
    replace hb14 := ((hb14.ext (Ext.trans he111 he117)).exc hx122 (Nat.ne_of_lt (Nat.lt_trans lt_b12_b110 lt_b110_b116))).exc hx126 (Nat.ne_of_lt lt_b12_b110)
    replace hn71 := ((hn71.tr (Sm.ext hm129)).apn hx122 nb_hx122).apn hx126 nb_hx126
    replace hd73 := ((hd73.tr (Sm.ext hm129)).apn hx122 nb_hx122).apn hx126 nb_hx126
    replace hn81 := ((hn81.tr (Sm.ext (Ext.trans he111 he117))).apn hx122 nb_hx122).apn hx126 nb_hx126
    replace hd83 := ((hd83.tr (Sm.ext (Ext.trans he111 he117))).apn hx122 nb_hx122).apn hx126 nb_hx126
    replace hb118 := hb118.exc hx126 (Nat.ne_of_gt lt_b110_b116)
    refine ⟨b116, b110, vn70, vd72, vn80, vd82, ?_, ?_, ?_, ?_, ?_, ?_, ?_, ?_, ?_, ?_, ?_, ?_, ?_, ?_, ?_, ?_, ?_, ?_, ?_, ?_, ?_, ?_⟩
    · exact (by repeat (first | exact G62 | refine Off.st ?_ dC _))
    · exact rfl
    · exact rfl
    · exact ge_b116
    · exact (Nat.lt_trans lt_b12_b110 lt_b110_b116)
    · exact ge_b110
    · exact lt_b12_b110
    · exact (Nat.ne_of_gt lt_b110_b116)
    · exact hx
    · exact hy
    · exact hdx
    · exact hdy
    · exact hE
    · exact hb4
    · exact hb9
    · exact hb14
    · exact hn71
    · exact hd73
    · exact hn81
    · exact hd83
    · exact hb118
    exact hb112
   refine RS.run rfl rfl rfl dC (h_alloc (cs := [(.bool false), (.slice none 0 0), (.slice none 0 0)]) ty44 rfl) ?_ ?_
   ·rintro _ w130 ⟨b131, rfl, hs134, hb133, he132⟩
    refine rm he132 ?_
    replace hb14 := hb14.ext (Ext.trans he64 he69)
    have lt_b12_b131 := Nat.lt_of_lt_of_eq hb14.lt hs134.symm
    have ge_b131 := hE.ge hs134
    replace hE := hE.nx he132
    refine RA.all [3, 5] kR rfl ?_
    replace hy := hy.tr (Sm.ext he132)
    replace hdy := hdy.tr (Sm.ext he132)
    refine RS.call rfl rfl rfl dC (r_call (vl := [(.agg #[(.bool sy), vy, uy])]) ent48 rfl) (r03_norm hy (by assumption) oS hdy (by assumption) oS (show ratOf sy (val y) (val dy) = qy from ey)) ?_ ?_
    ·rintro _ w135 ⟨⟨vn137, vd139, rfl, hn138, hd140, hl141, hl142⟩, he136⟩
     refine rm he136 ?_
     have hlv143 := den_one qy
     replace hn138 := hn138.fr hE
     replace hd140 := hd140.fr hE
     replace hE := hE.nx he136
     refine RA.all [5] kR rfl ?_
     refine RS.run rfl rfl rfl dC (h_alloc (cs := [(.bool false), (.slice none 0 0), (.slice none 0 0)]) ty44 rfl) ?_ RS.nil
     rintro _ w144 ⟨b145, rfl, hs148, hb147, he146⟩
     refine rm he146 ?_
     replace hb133 := hb133.ext he136
     have lt_b131_b145 := Nat.lt_of_lt_of_eq hb133.lt hs148.symm
     have ge_b145 := hE.ge hs148
     refine RA.all [6] kR rfl ?_
     replace hb133 := hb133.ext he146
     refine RS.runs rfl rfl rfl (h_stA (cs := [(bd (qx.num < 0)), vn70, vd72]) (o := 0) ty44 rfl rfl rfl rfl (one_cons rfl (one_cons hn71.one (one_cons hd73.one one_nil))) hb133 bL) ?_ RS.nil
     rintro w149 ⟨hn150, hx151, hz152⟩
     refine ⟨.inr (.inl kR), ?_⟩
     have nb_hx151 := (Nb.of hb133 (nu_cons rfl (nu_cons rfl (nu_cons rfl nu_nil))))
     replace hb133 : Bk w149 b131 44 [(bd (qx.num < 0)), vn70, vd72] := hn150
     refine RA.all [7] kR rfl ?_
     replace hb147 := hb147.exc hx151 (Nat.ne_of_gt lt_b131_b145)
     refine RS.runs rfl rfl rfl (h_stA (cs := [(bd (qy.num < 0)), vn137, vd139]) (o := 0) ty44 rfl rfl rfl rfl (one_cons rfl (one_cons hn138.one (one_cons hd140.one one_nil))) hb147 bL) ?_ RS.nil
     rintro w153 ⟨hn154, hx155, hz156⟩
     refine ⟨.inr (.inl kR), ?_⟩
     replace hE := ((hE.nx he146).nb hx151 ge_b131).nb hx155 ge_b145
     have nb_hx155 := (Nb.of hb147 (nu_cons rfl (nu_cons rfl (nu_cons rfl nu_nil))))
     replace hb147 : Bk w153 b145 44 [(bd (qy.num < 0)), vn137, vd139] := hn154
     refine RA.done kR ?_
     have hm157 := Ext.trans he69 (Ext.trans he132 (Ext.trans he136 he146))
     replace hx := ((hx.tr (Sm.ext hm157)).apn hx151 nb_hx151).apn hx155 nb_hx155
     replace hy := ((hy.tr (Sm.ext (Ext.trans he136 he146))).apn hx151 nb_hx151).apn hx155 nb_hx155
     replace hdx := ((hdx.tr (Sm.ext hm157)).apn hx151 nb_hx151).apn hx155 nb_hx155
     replace hdy := ((hdy.tr (Sm.ext (Ext.trans he136 he146))).apn hx151 nb_hx151).apn hx155 nb_hx155
     replace hb4 := ((hb4.ext hm157).exc hx151 (Nat.ne_of_lt (Nat.lt_trans lt_b2_b7 (Nat.lt_trans lt_b7_b12 lt_b12_b131)))).exc hx155 (Nat.ne_of_lt (Nat.lt_trans lt_b2_b7 (Nat.lt_trans lt_b7_b12 (Nat.lt_trans lt_b12_b131 lt_b131_b145))))
     replace hb9 := ((hb9.ext hm157).exc hx151 (Nat.ne_of_lt (Nat.lt_trans lt_b7_b12 lt_b12_b131))).exc hx155 (Nat.ne_of_lt (Nat.lt_trans lt_b7_b12 (Nat.lt_trans lt_b12_b131 lt_b131_b145)))
     have hm158 := Ext.trans he132 (Ext.trans he136 he146)
     replace hb14 := ((hb14.ext hm158).exc hx151 (Nat.ne_of_lt lt_b12_b131)).exc hx155 (Nat.ne_of_lt (Nat.lt_trans lt_b12_b131 lt_b131_b145))
     replace hn71 := ((hn71.tr (Sm.ext hm158)).apn hx151 nb_hx151).apn hx155 nb_hx155
     replace hd73 := ((hd73.tr (Sm.ext hm158)).apn hx151 nb_hx151).apn hx155 nb_hx155
     replace hn138 := ((hn138.tr (Sm.ext he146)).apn hx151 nb_hx151).apn hx155 nb_hx155
     replace hd140 := ((hd140.tr (Sm.ext he146)).apn hx151 nb_hx151).apn hx155 nb_hx155
     replace hb133 := hb133.exc hx155 (Nat.ne_of_lt lt_b131_b145)
     refine ⟨b131, b145, vn70, vd72, vn137, vd139, ?_, ?_, ?_, ?_, ?_, ?_, ?_, ?_, ?_, ?_, ?_, ?_, ?_, ?_, ?_, ?_, ?_, ?_, ?_, ?_, ?_, ?_⟩
     · exact (by repeat (first | exact G62 | refine Off.st ?_ dC _))
     · exact rfl
     · exact rfl
     · exact ge_b131
     · exact lt_b12_b131
     · exact ge_b145
     · exact (Nat.lt_trans lt_b12_b131 lt_b131_b145)
     · exact (Nat.ne_of_lt lt_b131_b145)
     · exact hx
     · exact hy
     · exact hdx
     · exact hdy
     · exact hE
     · exact hb4
     · exact hb9
     · exact hb14
     · exact hn71
     · exact hd73
     · exact hn138
     · exact hd140
     · exact hb133
     exact hb147
    refine RS.run rfl rfl rfl dC (h_alloc (cs := [(.bool false), (.slice none 0 0), (.slice none 0 0)]) ty44 rfl) ?_ RS.nil
    rintro _ w159 ⟨b160, rfl, hs163, hb162, he161⟩
    refine rm he161 ?_
    have lt_b131_b160 := Nat.lt_of_lt_of_eq hb133.lt hs163.symm
    have ge_b160 := hE.ge hs163
    replace hE := hE.nx he161
    refine RA.all [3] kR rfl ?_
    replace hy := hy.tr (Sm.ext he161)
    replace hdy := hdy.tr (Sm.ext he161)
    refine RS.call rfl rfl rfl dC (r_call (vl := [(.agg #[(.bool sy), vy, uy])]) ent48 rfl) (r03_norm hy (by assumption) oS hdy (by assumption) oS (show ratOf sy (val y) (val dy) = qy from ey)) ?_ RS.nil
    rintro _ w164 ⟨⟨vn166, vd168, rfl, hn167, hd169, hl170, hl171⟩, he165⟩
    refine rm he165 ?_
    have hlv172 := den_one qy
    replace hn167 := hn167.fr hE
    replace hd169 := hd169.fr hE
    refine RA.all [6] kR rfl ?_
    replace hb133 := hb133.ext (Ext.trans he161 he165)
    refine RS.runs rfl rfl rfl (h_stA (cs := [(bd (qx.num < 0)), vn70, vd72]) (o := 0) ty44 rfl rfl rfl rfl (one_cons rfl (one_cons hn71.one (one_cons hd73.one one_nil))) hb133 bL) ?_ RS.nil
    rintro w173 ⟨hn174, hx175, hz176⟩
    refine ⟨.inr (.inl kR), ?_⟩
    have nb_hx175 := (Nb.of hb133 (nu_cons rfl (nu_cons rfl (nu_cons rfl nu_nil))))
    replace hb133 : Bk w173 b131 44 [(bd (qx.num < 0)), vn70, vd72] := hn174
    refine RA.all [7] kR rfl ?_
    replace hb162 := (hb162.ext he165).exc hx175 (Nat.ne_of_gt lt_b131_b160)
    refine RS.runs rfl rfl rfl (h_stA (cs := [(bd (qy.num < 0)), vn166, vd168]) (o := 0) ty44 rfl rfl rfl rfl (one_cons rfl (one_cons hn167.one (one_cons hd169.one one_nil))) hb162 bL) ?_ RS.nil
    rintro w177 ⟨hn178, hx179, hz180⟩
    refine ⟨.inr (.inl kR), ?_⟩
    replace hE := ((hE.nx he165).nb hx175 ge_b131).nb hx179 ge_b160
    have nb_hx179 := (Nb.of hb162 (nu_cons rfl (nu_cons rfl (nu_cons rfl nu_nil))))
    replace hb162 : Bk w177 b160 44 [(bd (qy.num < 0)), vn166, vd168] := hn178
    refine RA.done kR ?_
    have hm181 := Ext.trans he69 (Ext.trans he132 (Ext.trans he161 he165))
    replace hx := ((hx.tr (Sm.ext hm181)).apn hx175 nb_hx175).apn hx179 nb_hx179
    replace hy := ((hy.tr (Sm.ext he165)).apn hx175 nb_hx175).apn hx179 nb_hx179
    replace hdx := ((hdx.tr (Sm.ext hm181)).apn hx175 nb_hx175).apn hx179 nb_hx179
    replace hdy := ((hdy.tr (Sm.ext he165)).apn hx175 nb_hx175).apn hx179 nb_hx179
    replace hb4 := ((hb4.ext hm181).exc hx175 (Nat.ne_of_lt (Nat.lt_trans lt_b2_b7 (Nat.lt_trans lt_b7_b12 lt_b12_b131)))).exc hx179 (Nat.ne_of_lt (Nat.lt_trans lt_b2_b7 (Nat.lt_trans lt_b7_b12 (Nat.lt_trans lt_b12_b131 lt_b131_b160))))
    replace hb9 := ((hb9.ext hm181).exc hx175 (Nat.ne_of_lt (Nat.lt_trans lt_b7_b12 lt_b12_b131))).exc hx179 (Nat.ne_of_lt (Nat.lt_trans lt_b7_b12 (Nat.lt_trans lt_b12_b131 lt_b131_b160)))
    have hm182 := Ext.trans he132 (Ext.trans he161 he165)
    replace hb14 := ((hb14.ext hm182).exc hx175 (Nat.ne_of_lt lt_b12_b131)).exc hx179 (Nat.ne_of_lt (Nat.lt_trans lt_b12_b131 lt_b131_b160))
    replace hn71 := ((hn71.tr (Sm.ext hm182)).apn hx175 nb_hx175).apn hx179 nb_hx179
    replace hd73 := ((hd73.tr (Sm.ext hm182)).apn hx175 nb_hx175).apn hx179 nb_hx179
    replace hn167 := (hn167.apn hx175 nb_hx175).apn hx179 nb_hx179
    replace hd169 := (hd169.apn hx175 nb_hx175).apn hx179 nb_hx179
    replace hb133 := hb133.exc hx179 (Nat.ne_of_lt lt_b131_b160)
    refine ⟨b131, b160, vn70, vd72, vn166, vd168, ?_, ?_, ?_, ?_, ?_, ?_, ?_, ?_, ?_, ?_, ?_, ?_, ?_, ?_, ?_, ?_, ?_, ?_, ?_, ?_, ?_, ?_⟩
    · exact (by repeat (first | exact G62 | refine Off.st ?_ dC _))
    · exact rfl
    · exact rfl
    · exact ge_b131
    · exact lt_b12_b131
    · exact ge_b160
    · exact (Nat.lt_trans lt_b12_b131 lt_b131_b160)
    · exact (Nat.ne_of_lt lt_b131_b160)
    · exact hx
    · exact hy
    · exact hdx
    · exact hdy
    · exact hE
    · exact hb4
    · exact hb9
    · exact hb14
    · exact hn71
    · exact hd73
    · exact hn167
    · exact hd169
    · exact hb133
    exact hb162
   refine RS.run rfl rfl rfl dC (h_alloc (cs := [(.bool false), (.slice none 0 0), (.slice none 0 0)]) ty44 rfl) ?_ RS.nil
   rintro _ w183 ⟨b184, rfl, hs187, hb186, he185⟩
   refine rm he185 ?_
   replace hb14 := hb14.ext (Ext.trans he64 he69)
   have lt_b12_b184 := Nat.lt_of_lt_of_eq hb14.lt hs187.symm
   have ge_b184 := hE.ge hs187
   replace hE := hE.nx he185
   refine RA.all [3, 4] kR rfl ?_
   replace hy := hy.tr (Sm.ext he185)
   replace hdy := hdy.tr (Sm.ext he185)
   refine RS.call rfl rfl rfl dC (r_call (vl := [(.agg #[(.bool sy), vy, uy])]) ent48 rfl) (r03_norm hy (by assumption) oS hdy (by assumption) oS (show ratOf sy (val y) (val dy) = qy from ey)) ?_ ?_
   ·rintro _ w188 ⟨⟨vn190, vd192, rfl, hn191, hd193, hl194, hl195⟩, he189⟩
    refine rm he189 ?_
    have hlv196 := den_one qy
    replace hn191 := hn191.fr hE
    replace hd193 := hd193.fr hE
    replace hE := hE.nx he189
    refine RA.all [4] kR rfl ?_
    refine RS.run rfl rfl rfl dC (h_alloc (cs := [(.bool false), (.slice none 0 0), (.slice none 0 0)]) ty44 rfl) ?_ RS.nil
    rintro _ w197 ⟨b198, rfl, hs201, hb200, he199⟩
    refine rm he199 ?_
    replace hb186 := hb186.ext he189
    have lt_b184_b198 := Nat.lt_of_lt_of_eq hb186.lt hs201.symm
    have ge_b198 := hE.ge hs201
    refine RA.all [6] kR rfl ?_
    refine RS.runs rfl rfl rfl (h_stA (cs := [(bd (qx.num < 0)), vn70, vd72]) (o := 0) ty44 rfl rfl rfl rfl (one_cons rfl (one_cons hn71.one (one_cons hd73.one one_nil))) hb200 bL) ?_ RS.nil
    rintro w202 ⟨hn203, hx204, hz205⟩
    refine ⟨.inr (.inl kR), ?_⟩
    have nb_hx204 := (Nb.of hb200 (nu_cons rfl (nu_cons rfl (nu_cons rfl nu_nil))))
    replace hb200 : Bk w202 b198 44 [(bd (qx.num < 0)), vn70, vd72] := hn203
    refine RA.all [7] kR rfl ?_
    replace hb186 := (hb186.ext he199).exc hx204 (Nat.ne_of_lt lt_b184_b198)
    refine RS.runs rfl rfl rfl (h_stA (cs := [(bd (qy.num < 0)), vn190, vd192]) (o := 0) ty44 rfl rfl rfl rfl (one_cons rfl (one_cons hn191.one (one_cons hd193.one one_nil))) hb186 bL) ?_ RS.nil
    rintro w206 ⟨hn207, hx208, hz209⟩
    refine ⟨.inr (.inl kR), ?_⟩
    replace hE := ((hE.nx he199).nb hx204 ge_b198).nb hx208 ge_b184
    have nb_hx208 := (Nb.of hb186 (nu_cons rfl (nu_cons rfl (nu_cons rfl nu_nil))))
    replace hb186 : Bk w206 b184 44 [(bd (qy.num < 0)), vn190, vd192] := hn207
    refine RA.done kR ?_
    have hm210 := Ext.trans he69 (Ext.trans he185 (Ext.trans he189 he199))
    replace hx := ((hx.tr (Sm.ext hm210)).apn hx204 nb_hx204).apn hx208 nb_hx208
    replace hy := ((hy.tr (Sm.ext (Ext.trans he189 he199))).apn hx204 nb_hx204).apn hx208 nb_hx208
    replace hdx := ((hdx.tr (Sm.ext hm210)).apn hx204 nb_hx204).apn hx208 nb_hx208
    replace hdy := ((hdy.tr (Sm.ext (Ext.trans he189 he199))).apn hx204 nb_hx204).apn hx208 nb_hx208
    replace hb4 := ((hb4.ext hm210).exc hx204 (Nat.ne_of_lt (Nat.lt_trans lt_b2_b7 (Nat.lt_trans lt_b7_b12 (Nat.lt_trans lt_b12_b184 lt_b184_b198))))).exc hx208 (Nat.ne_of_lt (Nat.lt_trans lt_b2_b7 (Nat.lt_trans lt_b7_b12 lt_b12_b184)))
    replace hb9 := ((hb9.ext hm210).exc hx204 (Nat.ne_of_lt (Nat.lt_trans lt_b7_b12 (Nat.lt_trans lt_b12_b184 lt_b184_b198)))).exc hx208 (Nat.ne_of_lt (Nat.lt_trans lt_b7_b12 lt_b12_b184))
    have hm211 := Ext.trans he185 (Ext.trans he189 he199)
    replace hb14 := ((hb14.ext hm211).exc hx204 (Nat.ne_of_lt (Nat.lt_trans lt_b12_b184 lt_b184_b198))).exc hx208 (Nat.ne_of_lt lt_b12_b184)
    replace hn71 := ((hn71.tr (Sm.ext hm211)).apn hx204 nb_hx204).apn hx208 nb_hx208
    replace hd73 := ((hd73.tr (Sm.ext hm211)).apn hx204 nb_hx204).apn hx208 nb_hx208
    replace hn191 := ((hn191.tr (Sm.ext he199)).apn hx204 nb_hx204).apn hx208 nb_hx208
    replace hd193 := ((hd193.tr (Sm.ext he199)).apn hx204 nb_hx204).apn hx208 nb_hx208
    replace hb200 := hb200.exc hx208 (Nat.ne_of_gt lt_b184_b198)
    refine ⟨b198, b184, vn70, vd72, vn190, vd192, ?_, ?_, ?_, ?_, ?_, ?_, ?_, ?_, ?_, ?_, ?_, ?_, ?_, ?_, ?_, ?_, ?_, ?_, ?_, ?_, ?_, ?_⟩
    · exact (by repeat (first | exact G62 | refine Off.st ?_ dC _))
    · exact rfl
    · exact rfl
    · exact ge_b198
    · exact (Nat.lt_trans lt_b12_b184 lt_b184_b198)
    · exact ge_b184
    · exact lt_b12_b184
    · exact (Nat.ne_of_gt lt_b184_b198)
    · exact hx
    · exact hy
    · exact hdx
    · exact hdy
    · exact hE
    · exact hb4
    · exact hb9
    · exact hb14
    · exact hn71
    · exact hd73
    · exact hn191
    · exact hd193
    · exact hb200
    exact hb186
   refine RS.run rfl rfl rfl dC (h_alloc (cs := [(.bool false), (.slice none 0 0), (.slice none 0 0)]) ty44 rfl) ?_ RS.nil
   rintro _ w212 ⟨b213, rfl, hs216, hb215, he214⟩
   refine rm he214 ?_
   have lt_b184_b213 := Nat.lt_of_lt_of_eq hb186.lt hs216.symm
   have ge_b213 := hE.ge hs216
   replace hE := hE.nx he214
   refine RA.all [3] kR rfl ?_
   replace hy := hy.tr (Sm.ext he214)
   replace hdy := hdy.tr (Sm.ext he214)
   refine RS.call rfl rfl rfl dC (r_call (vl := [(.agg #[(.bool sy), vy, uy])]) ent48 rfl) (r03_norm hy (by assumption) oS hdy (by assumption) oS (show ratOf sy (val y) (val dy) = qy from ey)) ?_ RS.nil
   rintro _ w217 ⟨⟨vn219, vd221, rfl, hn220, hd222, hl223, hl224⟩, he218⟩
   refine rm he218 ?_
   have hlv225 := den_one qy
   replace hn220 := hn220.fr hE
   replace hd222 := hd222.fr hE
   refine RA.all [6] kR rfl ?_
   replace hb215 := hb215.ext he218
   refine RS.runs rfl rfl rfl (h_stA (cs := [(bd (qx.num < 0)), vn70, vd72]) (o := 0) ty44 rfl rfl rfl rfl (one_cons rfl (one_cons hn71.one (one_cons hd73.one one_nil))) hb215 bL) ?_ RS.nil
   rintro w226 ⟨hn227, hx228, hz229⟩
   refine ⟨.inr (.inl kR), ?_⟩
   have nb_hx228 := (Nb.of hb215 (nu_cons rfl (nu_cons rfl (nu_cons rfl nu_nil))))
   replace hb215 : Bk w226 b213 44 [(bd (qx.num < 0)), vn70, vd72] := hn227
   refine RA.all [7] kR rfl ?_
   replace hb186 := (hb186.ext (Ext.trans he214 he218)).exc hx228 (Nat.ne_of_lt lt_b184_b213)
   refine RS.runs rfl rfl rfl (h_stA (cs := [(bd (qy.num < 0)), vn219, vd221]) (o := 0) ty44 rfl rfl rfl rfl (one_cons rfl (one_cons hn220.one (one_cons hd222.one one_nil))) hb186 bL) ?_ RS.nil
   rintro w230 ⟨hn231, hx232, hz233⟩
   refine ⟨.inr (.inl kR), ?_⟩
   replace hE := ((hE.nx he218).nb hx228 ge_b213).nb hx232 ge_b184
   have nb_hx232 := (Nb.of hb186 (nu_cons rfl (nu_cons rfl (nu_cons rfl nu_nil))))
   replace hb186 : Bk w230 b184 44 [(bd (qy.num < 0)), vn219, vd221] := hn231
   refine RA.done kR ?_
   have hm234 := Ext.trans he69 (Ext.trans he185 (Ext.trans he214 he218))
   replace hx := ((hx.tr (Sm.ext hm234)).apn hx228 nb_hx228).apn hx232 nb_hx232
   replace hy := ((hy.tr (Sm.ext he218)).apn hx228 nb_hx228).apn hx232 nb_hx232
   replace hdx := ((hdx.tr (Sm.ext hm234)).apn hx228 nb_hx228).apn hx232 nb_hx232
   replace hdy := ((hdy.tr (Sm.ext he218)).apn hx228 nb_hx228).apn hx232 nb_hx232
   replace hb4 := ((hb4.ext hm234).exc hx228 (Nat.ne_of_lt (Nat.lt_trans lt_b2_b7 (Nat.lt_trans lt_b7_b12 (Nat.lt_trans lt_b12_b184 lt_b184_b213))))).exc hx232 (Nat.ne_of_lt (Nat.lt_trans lt_b2_b7 (Nat.lt_trans lt_b7_b12 lt_b12_b184)))
   replace hb9 := ((hb9.ext hm234).exc hx228 (Nat.ne_of_lt (Nat.lt_trans lt_b7_b12 (Nat.lt_trans lt_b12_b184 lt_b184_b213)))).exc hx232 (Nat.ne_of_lt (Nat.lt_trans lt_b7_b12 lt_b12_b184))
   have hm235 := Ext.trans he185 (Ext.trans he214 he218)
   replace hb14 := ((hb14.ext hm235).exc hx228 (Nat.ne_of_lt (Nat.lt_trans lt_b12_b184 lt_b184_b213))).exc hx232 (Nat.ne_of_lt lt_b12_b184)
   replace hn71 := ((hn71.tr (Sm.ext hm235)).apn hx228 nb_hx228).apn hx232 nb_hx232
   replace hd73 := ((hd73.tr (Sm.ext hm235)).apn hx228 nb_hx228).apn hx232 nb_hx232
   replace hn220 := (hn220.apn hx228 nb_hx228).apn hx232 nb_hx232
   replace hd222 := (hd222.apn hx228 nb_hx228).apn hx232 nb_hx232
   replace hb215 := hb215.exc hx232 (Nat.ne_of_gt lt_b184_b213)
   refine ⟨b213, b184, vn70, vd72, vn219, vd221, ?_, ?_, ?_, ?_, ?_, ?_, ?_, ?_, ?_, ?_, ?_, ?_, ?_, ?_, ?_, ?_, ?_, ?_, ?_, ?_, ?_, ?_⟩
   · exact (by repeat (first | exact G62 | refine Off.st ?_ dC _))
   · exact rfl
   · exact rfl
   · exact ge_b213
   · exact (Nat.lt_trans lt_b12_b184 lt_b184_b213)
   · exact ge_b184
   · exact lt_b12_b184
   · exact (Nat.ne_of_gt lt_b184_b213)
   · exact hx
   · exact hy
   · exact hdx
   · exact hdy
   · exact hE
   · exact hb4
   · exact hb9
   · exact hb14
   · exact hn71
   · exact hd73
   · exact hn220
   · exact hd222
   · exact hb215
   exact hb186
  refine RS.run rfl rfl rfl dC (h_alloc (cs := [(.bool false), (.slice none 0 0), (.slice none 0 0)]) ty44 rfl) ?_ ?_
  ·rintro _ w236 ⟨b237, rfl, hs240, hb239, he238⟩
   refine rm he238 ?_
   replace hb14 := hb14.ext he64
   have lt_b12_b237 := Nat.lt_of_lt_of_eq hb14.lt hs240.symm
   have ge_b237 := hE.ge hs240
   replace hE := hE.nx he238
   refine RA.all [1, 5] kR rfl ?_
   replace hx := hx.tr (Sm.ext he238)
   replace hdx := hdx.tr (Sm.ext he238)
   refine RS.call rfl rfl rfl dC (r_call (vl := [(.agg #[(.bool sx), vx, ux])]) ent48 rfl) (r03_norm hx (by assumption) oS hdx (by assumption) oS (show ratOf sx (val x) (val dx) = qx from ex)) ?_ ?_
   ·rintro _ w241 ⟨⟨vn243, vd245, rfl, hn244, hd246, hl247, hl248⟩, he242⟩
    refine rm he242 ?_
    have hlv249 := den_one qx
    replace hn244 := hn244.fr hE
    replace hd246 := hd246.fr hE
    replace hE := hE.nx he242
    refine RA.all [3, 5] kR rfl ?_
    have hm258 := Ext.trans he3 (Ext.trans he8 (Ext.trans he13 (Ext.trans he64 (Ext.trans he238 he242))))
    replace hy := hy.tr (Sm.ext hm258)
    replace hdy := hdy.tr (Sm.ext hm258)
    refine RS.call rfl rfl rfl dC (r_call (vl := [(.agg #[(.bool sy), vy, uy])]) ent48 rfl) (r03_norm hy (by assumption) oS hdy (by assumption) oS (show ratOf sy (val y) (val dy) = qy from ey)) ?_ ?_
    ·rintro _ w250 ⟨⟨vn252, vd254, rfl, hn253, hd255, hl256, hl257⟩, he251⟩
     refine rm he251 ?_
     have hlv259 := den_one qy
     replace hn253 := hn253.fr hE
     replace hd255 := hd255.fr hE
     replace hE := hE.nx he251
     refine RA.all [5] kR rfl ?_
     refine RS.run rfl rfl rfl dC (h_alloc (cs := [(.bool false), (.slice none 0 0), (.slice none 0 0)]) ty44 rfl) ?_ RS.nil
     rintro _ w260 ⟨b261, rfl, hs264, hb263, he262⟩
     refine rm he262 ?_
     replace hb239 := hb239.ext (Ext.trans he242 he251)
     have lt_b237_b261 := Nat.lt_of_lt_of_eq hb239.lt hs264.symm
     have ge_b261 := hE.ge hs264
     refine RA.all [6] kR rfl ?_
     replace hb239 := hb239.ext he262
     refine RS.runs rfl rfl rfl (h_stA (cs := [(bd (qx.num < 0)), vn243, vd245]) (o := 0) ty44 rfl rfl rfl rfl (one_cons rfl (one_cons hn244.one (one_cons hd246.one one_nil))) hb239 bL) ?_ RS.nil
     rintro w265 ⟨hn266, hx267, hz268⟩
     refine ⟨.inr (.inl kR), ?_⟩
     have nb_hx267 := (Nb.of hb239 (nu_cons rfl (nu_cons rfl (nu_cons rfl nu_nil))))
     replace hb239 : Bk w265 b237 44 [(bd (qx.num < 0)), vn243, vd245] := hn266
     refine RA.all [7] kR rfl ?_
     replace hb263 := hb263.exc hx267 (Nat.ne_of_gt lt_b237_b261)
     refine RS.runs rfl rfl rfl (h_stA (cs := [(bd (qy.num < 0)), vn252, vd254]) (o := 0) ty44 rfl rfl rfl rfl (one_cons rfl (one_cons hn253.one (one_cons hd255.one one_nil))) hb263 bL) ?_ RS.nil
     rintro w269 ⟨hn270, hx271, hz272⟩
     refine ⟨.inr (.inl kR), ?_⟩
     replace hE := ((hE.nx he262).nb hx267 ge_b237).nb hx271 ge_b261
     have nb_hx271 := (Nb.of hb263 (nu_cons rfl (nu_cons rfl (nu_cons rfl nu_nil))))
     replace hb263 : Bk w269 b261 44 [(bd (qy.num < 0)), vn252, vd254] := hn270
     refine RA.done kR ?_
     have hm273 := Ext.trans he242 (Ext.trans he251 he262)
     replace hx := ((hx.tr (Sm.ext hm273)).apn hx267 nb_hx267).apn hx271 nb_hx271
     replace hy := ((hy.tr (Sm.ext (Ext.trans he251 he262))).apn hx267 nb_hx267).apn hx271 nb_hx271
     replace hdx := ((hdx.tr (Sm.ext hm273)).apn hx267 nb_hx267).apn hx271 nb_hx271
     replace hdy := ((hdy.tr (Sm.ext (Ext.trans he251 he262))).apn hx267 nb_hx267).apn hx271 nb_hx271
     have hm274 := Ext.trans he238 (Ext.trans he242 (Ext.trans he251 he262))
     replace hb4 := ((hb4.ext hm274).exc hx267 (Nat.ne_of_lt (Nat.lt_trans lt_b2_b7 (Nat.lt_trans lt_b7_b12 lt_b12_b237)))).exc hx271 (Nat.ne_of_lt (Nat.lt_trans lt_b2_b7 (Nat.lt_trans lt_b7_b12 (Nat.lt_trans lt_b12_b237 lt_b237_b261))))
     replace hb9 := ((hb9.ext hm274).exc hx267 (Nat.ne_of_lt (Nat.lt_trans lt_b7_b12 lt_b12_b237))).exc hx271 (Nat.ne_of_lt (Nat.lt_trans lt_b7_b12 (Nat.lt_trans lt_b12_b237 lt_b237_b261)))
     replace hb14 := ((hb14.ext hm274).exc hx267 (Nat.ne_of_lt lt_b12_b237)).exc hx271 (Nat.ne_of_lt (Nat.lt_trans lt_b12_b237 lt_b237_b261))
     replace hn244 := ((hn244.tr (Sm.ext (Ext.trans he251 he262))).apn hx267 nb_hx267).apn hx271 nb_hx271
     replace hd246 := ((hd246.tr (Sm.ext (Ext.trans he251 he262))).apn hx267 nb_hx267).apn hx271 nb_hx271
     replace hn253 := ((hn253.tr (Sm.ext he262)).apn hx267 nb_hx267).apn hx271 nb_hx271
     replace hd255 := ((hd255.tr (Sm.ext he262)).apn hx267 nb_hx267).apn hx271 nb_hx271
     replace hb239 := hb239.exc hx271 (Nat.ne_of_lt lt_b237_b261)
     refine ⟨b237, b261, vn243, vd245, vn252, vd254, ?_, ?_, ?_, ?_, ?_, ?_, ?_, ?_, ?_, ?_, ?_, ?_, ?_, ?_, ?_, ?_, ?_, ?_, ?_, ?_, ?_, ?_⟩
     · exact (by repeat (first | exact G62 | refine Off.st ?_ dC _))
     · exact rfl
     · exact rfl
     · exact ge_b237
     · exact lt_b12_b237
     · exact ge_b261
     · exact (Nat.lt_trans lt_b12_b237 lt_b237_b261)
     · exact (Nat.ne_of_lt lt_b237_b261)
     · exact hx
     · exact hy
     · exact hdx
     · exact hdy
     · exact hE
     · exact hb4
     · exact hb9
     · exact hb14
     · exact hn244
     · exact hd246
     · exact hn253
     · exact hd255
     · exact hb239
     exact hb263
    refine RS.run rfl rfl rfl dC (h_alloc (cs := [(.bool false), (.slice none 0 0), (.slice none 0 0)]) ty44 rfl) ?_ RS.nil
    rintro _ w275 ⟨b276, rfl, hs279, hb278, he277⟩
    refine rm he277 ?_
    replace hb239 := hb239.ext he242
    have lt_b237_b276 := Nat.lt_of_lt_of_eq hb239.lt hs279.symm
    have ge_b276 := hE.ge hs279
    replace hE := hE.nx he277
    refine RA.all [3] kR rfl ?_
    replace hy := hy.tr (Sm.ext he277)
    replace hdy := hdy.tr (Sm.ext he277)
    refine RS.call rfl rfl rfl dC (r_call (vl := [(.agg #[(.bool sy), vy, uy])]) ent48 rfl) (r03_norm hy (by assumption) oS hdy (by assumption) oS (show ratOf sy (val y) (val dy) = qy from ey)) ?_ RS.nil
    rintro _ w280 ⟨⟨vn282, vd284, rfl, hn283, hd285, hl286, hl287⟩, he281⟩
    refine rm he281 ?_
    have hlv288 := den_one qy
    replace hn283 := hn283.fr hE
    replace hd285 := hd285.fr hE
    refine RA.all [6] kR rfl ?_
    replace hb239 := hb239.ext (Ext.trans he277 he281)
    refine RS.runs rfl rfl rfl (h_stA (cs := [(bd (qx.num < 0)), vn243, vd245]) (o := 0) ty44 rfl rfl rfl rfl (one_cons rfl (one_cons hn244.one (one_cons hd246.one one_nil))) hb239 bL) ?_ RS.nil
    rintro w289 ⟨hn290, hx291, hz292⟩
    refine ⟨.inr (.inl kR), ?_⟩
    have nb_hx291 := (Nb.of hb239 (nu_cons rfl (nu_cons rfl (nu_cons rfl nu_nil))))
    replace hb239 : Bk w289 b237 44 [(bd (qx.num < 0)), vn243, vd245] := hn290
    refine RA.all [7] kR rfl ?_
    replace hb278 := (hb278.ext he281).exc hx291 (Nat.ne_of_gt lt_b237_b276)
    refine RS.runs rfl rfl rfl (h_stA (cs := [(bd (qy.num < 0)), vn282, vd284]) (o := 0) ty44 rfl rfl rfl rfl (one_cons rfl (one_cons hn283.one (one_cons hd285.one one_nil))) hb278 bL) ?_ RS.nil
    rintro w293 ⟨hn294, hx295, hz296⟩
    refine ⟨.inr (.inl kR), ?_⟩
    replace hE := ((hE.nx he281).nb hx291 ge_b237).nb hx295 ge_b276
    have nb_hx295 := (Nb.of hb278 (nu_cons rfl (nu_cons rfl (nu_cons rfl nu_nil))))
    replace hb278 : Bk w293 b276 44 [(bd (qy.num < 0)), vn282, vd284] := hn294
    refine RA.done kR ?_
    have hm297 := Ext.trans he242 (Ext.trans he277 he281)
    replace hx := ((hx.tr (Sm.ext hm297)).apn hx291 nb_hx291).apn hx295 nb_hx295
    replace hy := ((hy.tr (Sm.ext he281)).apn hx291 nb_hx291).apn hx295 nb_hx295
    replace hdx := ((hdx.tr (Sm.ext hm297)).apn hx291 nb_hx291).apn hx295 nb_hx295
    replace hdy := ((hdy.tr (Sm.ext he281)).apn hx291 nb_hx291).apn hx295 nb_hx295
    have hm298 := Ext.trans he238 (Ext.trans he242 (Ext.trans he277 he281))
    replace hb4 := ((hb4.ext hm298).exc hx291 (Nat.ne_of_lt (Nat.lt_trans lt_b2_b7 (Nat.lt_trans lt_b7_b12 lt_b12_b237)))).exc hx295 (Nat.ne_of_lt (Nat.lt_trans lt_b2_b7 (Nat.lt_trans lt_b7_b12 (Nat.lt_trans lt_b12_b237 lt_b237_b276))))
    replace hb9 := ((hb9.ext hm298).exc hx291 (Nat.ne_of_lt (Nat.lt_trans lt_b7_b12 lt_b12_b237))).exc hx295 (Nat.ne_of_lt (Nat.lt_trans lt_b7_b12 (Nat.lt_trans lt_b12_b237 lt_b237_b276)))
    replace hb14 := ((hb14.ext hm298).exc hx291 (Nat.ne_of_lt lt_b12_b237)).exc hx295 (Nat.ne_of_lt (Nat.lt_trans lt_b12_b237 lt_b237_b276))
    replace hn244 := ((hn244.tr (Sm.ext (Ext.trans he277 he281))).apn hx291 nb_hx291).apn hx295 nb_hx295
    replace hd246 := ((hd246.tr (Sm.ext (Ext.trans he277 he281))).apn hx291 nb_hx291).apn hx295 nb_hx295
    replace hn283 := (hn283.apn hx291 nb_hx291).apn hx295 nb_hx295
    replace hd285 := (hd285.apn hx291 nb_hx291).apn hx295 nb_hx295
    replace hb239 := hb239.exc hx295 (Nat.ne_of_lt lt_b237_b276)
    refine ⟨b237, b276, vn243, vd245, vn282, vd284, ?_, ?_, ?_, ?_, ?_, ?_, ?_, ?_, ?_, ?_, ?_, ?_, ?_, ?_, ?_, ?_, ?_, ?_, ?_, ?_, ?_, ?_⟩
    · exact (by repeat (first | exact G62 | refine Off.st ?_ dC _))
    · exact rfl
    · exact rfl
    · exact ge_b237
    · exact lt_b12_b237
    · exact ge_b276
    · exact (Nat.lt_trans lt_b12_b237 lt_b237_b276)
    · exact (Nat.ne_of_lt lt_b237_b276)
    · exact hx
    · exact hy
    · exact hdx
    · exact hdy
    · exact hE
    · exact hb4
    · exact hb9
    · exact hb14
    · exact hn244
    · exact hd246
    · exact hn283
    · exact hd285
    · exact hb239
    exact hb278
   refine RS.run rfl rfl rfl dC (h_alloc (cs := [(.bool false), (.slice none 0 0), (.slice none 0 0)]) ty44 rfl) ?_ RS.nil
   rintro _ w299 ⟨b300, rfl, hs303, hb302, he301⟩
   refine rm he301 ?_
   have lt_b237_b300 := Nat.lt_of_lt_of_eq hb239.lt hs303.symm
   have ge_b300 := hE.ge hs303
   replace hE := hE.nx he301
   refine RA.all [1] kR rfl ?_
   replace hx := hx.tr (Sm.ext he301)
   replace hdx := hdx.tr (Sm.ext he301)
   refine RS.call rfl rfl rfl dC (r_call (vl := [(.agg #[(.bool sx), vx, ux])]) ent48 rfl) (r03_norm hx (by assumption) oS hdx (by assumption) oS (show ratOf sx (val x) (val dx) = qx from ex)) ?_ RS.nil
   rintro _ w304 ⟨⟨vn306, vd308, rfl, hn307, hd309, hl310, hl311⟩, he305⟩
   refine rm he305 ?_
   have hlv312 := den_one qx
   replace hn307 := hn307.fr hE
   replace hd309 := hd309.fr hE
   replace hE := hE.nx he305
   refine RA.all [3] kR rfl ?_
   have hm321 := Ext.trans he3 (Ext.trans he8 (Ext.trans he13 (Ext.trans he64 (Ext.trans he238 (Ext.trans he301 he305)))))
   replace hy := hy.tr (Sm.ext hm321)
   replace hdy := hdy.tr (Sm.ext hm321)
   refine RS.call rfl rfl rfl dC (r_call (vl := [(.agg #[(.bool sy), vy, uy])]) ent48 rfl) (r03_norm hy (by assumption) oS hdy (by assumption) oS (show ratOf sy (val y) (val dy) = qy from ey)) ?_ RS.nil
   rintro _ w313 ⟨⟨vn315, vd317, rfl, hn316, hd318, hl319, hl320⟩, he314⟩
   refine rm he314 ?_
   have hlv322 := den_one qy
   replace hn316 := hn316.fr hE
   replace hd318 := hd318.fr hE
   refine RA.all [6] kR rfl ?_
   have hm327 := Ext.trans he301 (Ext.trans he305 he314)
   replace hb239 := hb239.ext hm327
   refine RS.runs rfl rfl rfl (h_stA (cs := [(bd (qx.num < 0)), vn306, vd308]) (o := 0) ty44 rfl rfl rfl rfl (one_cons rfl (one_cons hn307.one (one_cons hd309.one one_nil))) hb239 bL) ?_ RS.nil
   rintro w323 ⟨hn324, hx325, hz326⟩
   refine ⟨.inr (.inl kR), ?_⟩
   have nb_hx325 := (Nb.of hb239 (nu_cons rfl (nu_cons rfl (nu_cons rfl nu_nil))))
   replace hb239 : Bk w323 b237 44 [(bd (qx.num < 0)), vn306, vd308] := hn324
   refine RA.all [7] kR rfl ?_
   replace hb302 := (hb302.ext (Ext.trans he305 he314)).exc hx325 (Nat.ne_of_gt lt_b237_b300)
   refine RS.runs rfl rfl rfl (h_stA (cs := [(bd (qy.num < 0)), vn315, vd317]) (o := 0) ty44 rfl rfl rfl rfl (one_cons rfl (one_cons hn316.one (one_cons hd318.one one_nil))) hb302 bL) ?_ RS.nil
   rintro w328 ⟨hn329, hx330, hz331⟩
   refine ⟨.inr (.inl kR), ?_⟩
   replace hE := ((hE.nx he314).nb hx325 ge_b237).nb hx330 ge_b300
   have nb_hx330 := (Nb.of hb302 (nu_cons rfl (nu_cons rfl (nu_cons rfl nu_nil))))
   replace hb302 : Bk w328 b300 44 [(bd (qy.num < 0)), vn315, vd317] := hn329
   refine RA.done kR ?_
   replace hx := ((hx.tr (Sm.ext (Ext.trans he305 he314))).apn hx325 nb_hx325).apn hx330 nb_hx330
   replace hy := ((hy.tr (Sm.ext he314)).apn hx325 nb_hx325).apn hx330 nb_hx330
   replace hdx := ((hdx.tr (Sm.ext (Ext.trans he305 he314))).apn hx325 nb_hx325).apn hx330 nb_hx330
   replace hdy := ((hdy.tr (Sm.ext he314)).apn hx325 nb_hx325).apn hx330 nb_hx330
   have hm332 := Ext.trans he238 (Ext.trans he301 (Ext.trans he305 he314))
   replace hb4 := ((hb4.ext hm332).exc hx325 (Nat.ne_of_lt (Nat.lt_trans lt_b2_b7 (Nat.lt_trans lt_b7_b12 lt_b12_b237)))).exc hx330 (Nat.ne_of_lt (Nat.lt_trans lt_b2_b7 (Nat.lt_trans lt_b7_b12 (Nat.lt_trans lt_b12_b237 lt_b237_b300))))
   replace hb9 := ((hb9.ext hm332).exc hx325 (Nat.ne_of_lt (Nat.lt_trans lt_b7_b12 lt_b12_b237))).exc hx330 (Nat.ne_of_lt (Nat.lt_trans lt_b7_b12 (Nat.lt_trans lt_b12_b237 lt_b237_b300)))
   replace hb14 := ((hb14.ext hm332).exc hx325 (Nat.ne_of_lt lt_b12_b237)).exc hx330 (Nat.ne_of_lt (Nat.lt_trans lt_b12_b237 lt_b237_b300))
   replace hn307 := ((hn307.tr (Sm.ext he314)).apn hx325 nb_hx325).apn hx330 nb_hx330
   replace hd309 := ((hd309.tr (Sm.ext he314)).apn hx325 nb_hx325).apn hx330 nb_hx330
   replace hn316 := (hn316.apn hx325 nb_hx325).apn hx330 nb_hx330
   replace hd318 := (hd318.apn hx325 nb_hx325).apn hx330 nb_hx330
   replace hb239 := hb239.exc hx330 (Nat.ne_of_lt lt_b237_b300)
   refine ⟨b237, b300, vn306, vd308, vn315, vd317, ?_, ?_, ?_, ?_, ?_, ?_, ?_, ?_, ?_, ?_, ?_, ?_, ?_, ?_, ?_, ?_, ?_, ?_, ?_, ?_, ?_, ?_⟩
   · exact (by repeat (first | exact G62 | refine Off.st ?_ dC _))
   · exact rfl
   · exact rfl
   · exact ge_b237
   · exact lt_b12_b237
   · exact ge_b300
   · exact (Nat.lt_trans lt_b12_b237 lt_b237_b300)
   · exact (Nat.ne_of_lt lt_b237_b300)
   · exact hx
   · exact hy
   · exact hdx
   · exact hdy
   · exact hE
   · exact hb4
   · exact hb9
   · exact hb14
   · exact hn307
   · exact hd309
   · exact hn316
   · exact hd318
   · exact hb239
   exact hb302
  refine RS.run rfl rfl rfl dC (h_alloc (cs := [(.bool false), (.slice none 0 0), (.slice none 0 0)]) ty44 rfl) ?_ RS.nil
  rintro _ w333 ⟨b334, rfl, hs337, hb336, he335⟩
  refine rm he335 ?_
  replace hb14 := hb14.ext he64
  have lt_b12_b334 := Nat.lt_of_lt_of_eq hb14.lt hs337.symm
  have ge_b334 := hE.ge hs337
  replace hE := hE.nx he335
  refine RA.all [1, 4] kR rfl ?_
  replace hx := hx.tr (Sm.ext he335)
  replace hdx := hdx.tr (Sm.ext he335)
  refine RS.call rfl rfl rfl dC (r_call (vl := [(.agg #[(.bool sx), vx, ux])]) ent48 rfl) (r03_norm hx (by assumption) oS hdx (by assumption) oS (show ratOf sx (val x) (val dx) = qx from ex)) ?_ ?_
  ·rintro _ w338 ⟨⟨vn340, vd342, rfl, hn341, hd343, hl344, hl345⟩, he339⟩
   refine rm he339 ?_
   have hlv346 := den_one qx
   replace hn341 := hn341.fr hE
   replace hd343 := hd343.fr hE
   replace hE := hE.nx he339
   refine RA.all [3, 4] kR rfl ?_
   have hm355 := Ext.trans he3 (Ext.trans he8 (Ext.trans he13 (Ext.trans he64 (Ext.trans he335 he339))))
   replace hy := hy.tr (Sm.ext hm355)
   replace hdy := hdy.tr (Sm.ext hm355)
   refine RS.call rfl rfl rfl dC (r_call (vl := [(.agg #[(.bool sy), vy, uy])]) ent48 rfl) (r03_norm hy (by assumption) oS hdy (by assumption) oS (show ratOf sy (val y) (val dy) = qy from ey)) ?_ ?_
   ·rintro _ w347 ⟨⟨vn349, vd351, rfl, hn350, hd352, hl353, hl354⟩, he348⟩
    refine rm he348 ?_
    have hlv356 := den_one qy
    replace hn350 := hn350.fr hE
    replace hd352 := hd352.fr hE
    replace hE := hE.nx he348
    refine RA.all [4] kR rfl ?_
    refine RS.run rfl rfl rfl dC (h_alloc (cs := [(.bool false), (.slice none 0 0), (.slice none 0 0)]) ty44 rfl) ?_ RS.nil
    rintro _ w357 ⟨b358, rfl, hs361, hb360, he359⟩
    refine rm he359 ?_
    replace hb336 := hb336.ext (Ext.trans he339 he348)
    have lt_b334_b358 := Nat.lt_of_lt_of_eq hb336.lt hs361.symm
    have ge_b358 := hE.ge hs361
    refine RA.all [6] kR rfl ?_
    refine RS.runs rfl rfl rfl (h_stA (cs := [(bd (qx.num < 0)), vn340, vd342]) (o := 0) ty44 rfl rfl rfl rfl (one_cons rfl (one_cons hn341.one (one_cons hd343.one one_nil))) hb360 bL) ?_ RS.nil
    rintro w362 ⟨hn363, hx364, hz365⟩
    refine ⟨.inr (.inl kR), ?_⟩
    have nb_hx364 := (Nb.of hb360 (nu_cons rfl (nu_cons rfl (nu_cons rfl nu_nil))))
    replace hb360 : Bk w362 b358 44 [(bd (qx.num < 0)), vn340, vd342] := hn363
    refine RA.all [7] kR rfl ?_
    replace hb336 := (hb336.ext he359).exc hx364 (Nat.ne_of_lt lt_b334_b358)
    refine RS.runs rfl rfl rfl (h_stA (cs := [(bd (qy.num < 0)), vn349, vd351]) (o := 0) ty44 rfl rfl rfl rfl (one_cons rfl (one_cons hn350.one (one_cons hd352.one one_nil))) hb336 bL) ?_ RS.nil
    rintro w366 ⟨hn367, hx368, hz369⟩
    refine ⟨.inr (.inl kR), ?_⟩
    replace hE := ((hE.nx he359).nb hx364 ge_b358).nb hx368 ge_b334
    have nb_hx368 := (Nb.of hb336 (nu_cons rfl (nu_cons rfl (nu_cons rfl nu_nil))))
    replace hb336 : Bk w366 b334 44 [(bd (qy.num < 0)), vn349, vd351] := hn367
    refine RA.done kR ?_
    have hm370 := Ext.trans he339 (Ext.trans he348 he359)
    replace hx := ((hx.tr (Sm.ext hm370)).apn hx364 nb_hx364).apn hx368 nb_hx368
    replace hy := ((hy.tr (Sm.ext (Ext.trans he348 he359))).apn hx364 nb_hx364).apn hx368 nb_hx368
    replace hdx := ((hdx.tr (Sm.ext hm370)).apn hx364 nb_hx364).apn hx368 nb_hx368
    replace hdy := ((hdy.tr (Sm.ext (Ext.trans he348 he359))).apn hx364 nb_hx364).apn hx368 nb_hx368
    have hm371 := Ext.trans he335 (Ext.trans he339 (Ext.trans he348 he359))
    replace hb4 := ((hb4.ext hm371).exc hx364 (Nat.ne_of_lt (Nat.lt_trans lt_b2_b7 (Nat.lt_trans lt_b7_b12 (Nat.lt_trans lt_b12_b334 lt_b334_b358))))).exc hx368 (Nat.ne_of_lt (Nat.lt_trans lt_b2_b7 (Nat.lt_trans lt_b7_b12 lt_b12_b334)))
    replace hb9 := ((hb9.ext hm371).exc hx364 (Nat.ne_of_lt (Nat.lt_trans lt_b7_b12 (Nat.lt_trans lt_b12_b334 lt_b334_b358)))).exc hx368 (Nat.ne_of_lt (Nat.lt_trans lt_b7_b12 lt_b12_b334))
    replace hb14 := ((hb14.ext hm371).exc hx364 (Nat.ne_of_lt (Nat.lt_trans lt_b12_b334 lt_b334_b358))).exc hx368 (Nat.ne_of_lt lt_b12_b334)
    replace hn341 := ((hn341.tr (Sm.ext (Ext.trans he348 he359))).apn hx364 nb_hx364).apn hx368 nb_hx368
    replace hd343 := ((hd343.tr (Sm.ext (Ext.trans he348 he359))).apn hx364 nb_hx364).apn hx368 nb_hx368
    replace hn350 := ((hn350.tr (Sm.ext he359)).apn hx364 nb_hx364).apn hx368 nb_hx368
    replace hd352 := ((hd352.tr (Sm.ext he359)).apn hx364 nb_hx364).apn hx368 nb_hx368
    replace hb360 := hb360.exc hx368 (Nat.ne_of_gt lt_b334_b358)
    refine ⟨b358, b334, vn340, vd342, vn349, vd351, ?_, ?_, ?_, ?_, ?_, ?_, ?_, ?_, ?_, ?_, ?_, ?_, ?_, ?_, ?_, ?_, ?_, ?_, ?_, ?_, ?_, ?_⟩
    · exact (by repeat (first | exact G62 | refine Off.st ?_ dC _))
    · exact rfl
    · exact rfl
    · exact ge_b358
    · exact (Nat.lt_trans lt_b12_b334 lt_b334_b358)
    · exact ge_b334
    · exact lt_b12_b334
    · exact (Nat.ne_of_gt lt_b334_b358)
    · exact hx
    · exact hy
    · exact hdx
    · exact hdy
    · exact hE
    · exact hb4
    · exact hb9
    · exact hb14
    · exact hn341
    · exact hd343
    · exact hn350
    · exact hd352
    · exact hb360
    exact hb336
   refine RS.run rfl rfl rfl dC (h_alloc (cs := [(.bool false), (.slice none 0 0), (.slice none 0 0)]) ty44 rfl) ?_ RS.nil
   rintro _ w372 ⟨b373, rfl, hs376, hb375, he374⟩
   refine rm he374 ?_
   replace hb336 := hb336.ext he339
   have lt_b334_b373 := Nat.lt_of_lt_of_eq hb336.lt hs376.symm
   have ge_b373 := hE.ge hs376
   replace hE := hE.nx he374
   refine RA.all [3] kR rfl ?_
   replace hy := hy.tr (Sm.ext he374)
   replace hdy := hdy.tr (Sm.ext he374)
   refine RS.call rfl rfl rfl dC (r_call (vl := [(.agg #[(.bool sy), vy, uy])]) ent48 rfl) (r03_norm hy (by assumption) oS hdy (by assumption) oS (show ratOf sy (val y) (val dy) = qy from ey)) ?_ RS.nil
   rintro _ w377 ⟨⟨vn379, vd381, rfl, hn380, hd382, hl383, hl384⟩, he378⟩
   refine rm he378 ?_
   have hlv385 := den_one qy
   replace hn380 := hn380.fr hE
   replace hd382 := hd382.fr hE
   refine RA.all [6] kR rfl ?_
   replace hb375 := hb375.ext he378
   refine RS.runs rfl rfl rfl (h_stA (cs := [(bd (qx.num < 0)), vn340, vd342]) (o := 0) ty44 rfl rfl rfl rfl (one_cons rfl (one_cons hn341.one (one_cons hd343.one one_nil))) hb375 bL) ?_ RS.nil
   rintro w386 ⟨hn387, hx388, hz389⟩
   refine ⟨.inr (.inl kR), ?_⟩
   have nb_hx388 := (Nb.of hb375 (nu_cons rfl (nu_cons rfl (nu_cons rfl nu_nil))))
   replace hb375 : Bk w386 b373 44 [(bd (qx.num < 0)), vn340, vd342] := hn387
   refine RA.all [7] kR rfl ?_
   replace hb336 := (hb336.ext (Ext.trans he374 he378)).exc hx388 (Nat.ne_of_lt lt_b334_b373)
   refine RS.runs rfl rfl rfl (h_stA (cs := [(bd (qy.num < 0)), vn379, vd381]) (o := 0) ty44 rfl rfl rfl rfl (one_cons rfl (one_cons hn380.one (one_cons hd382.one one_nil))) hb336 bL) ?_ RS.nil
   rintro w390 ⟨hn391, hx392, hz393⟩
   refine ⟨.inr (.inl kR), ?_⟩
   replace hE := ((hE.nx he378).nb hx388 ge_b373).nb hx392 ge_b334
   have nb_hx392 := (Nb.of hb336 (nu_cons rfl (nu_cons rfl (nu_cons rfl nu_nil))))
   replace hb336 : Bk w390 b334 44 [(bd (qy.num < 0)), vn379, vd381] := hn391
   refine RA.done kR ?_
   have hm394 := Ext.trans he339 (Ext.trans he374 he378)
   replace hx := ((hx.tr (Sm.ext hm394)).apn hx388 nb_hx388).apn hx392 nb_hx392
   replace hy := ((hy.tr (Sm.ext he378)).apn hx388 nb_hx388).apn hx392 nb_hx392
   replace hdx := ((hdx.tr (Sm.ext hm394)).apn hx388 nb_hx388).apn hx392 nb_hx392
   replace hdy := ((hdy.tr (Sm.ext he378)).apn hx388 nb_hx388).apn hx392 nb_hx392
   have hm395 := Ext.trans he335 (Ext.trans he339 (Ext.trans he374 he378))
   replace hb4 := ((hb4.ext hm395).exc hx388 (Nat.ne_of_lt (Nat.lt_trans lt_b2_b7 (Nat.lt_trans lt_b7_b12 (Nat.lt_trans lt_b12_b334 lt_b334_b373))))).exc hx392 (Nat.ne_of_lt (Nat.lt_trans lt_b2_b7 (Nat.lt_trans lt_b7_b12 lt_b12_b334)))
   replace hb9 := ((hb9.ext hm395).exc hx388 (Nat.ne_of_lt (Nat.lt_trans lt_b7_b12 (Nat.lt_trans lt_b12_b334 lt_b334_b373)))).exc hx392 (Nat.ne_of_lt (Nat.lt_trans lt_b7_b12 lt_b12_b334))
   replace hb14 := ((hb14.ext hm395).exc hx388 (Nat.ne_of_lt (Nat.lt_trans lt_b12_b334 lt_b334_b373))).exc hx392 (Nat.ne_of_lt lt_b12_b334)
   replace hn341 := ((hn341.tr (Sm.ext (Ext.trans he374 he378))).apn hx388 nb_hx388).apn hx392 nb_hx392
   replace hd343 := ((hd343.tr (Sm.ext (Ext.trans he374 he378))).apn hx388 nb_hx388).apn hx392 nb_hx392
   replace hn380 := (hn380.apn hx388 nb_hx388).apn hx392 nb_hx392
   replace hd382 := (hd382.apn hx388 nb_hx388).apn hx392 nb_hx392
   replace hb375 := hb375.exc hx392 (Nat.ne_of_gt lt_b334_b373)
   refine ⟨b373, b334, vn340, vd342, vn379, vd381, ?_, ?_, ?_, ?_, ?_, ?_, ?_, ?_, ?_, ?_, ?_, ?_, ?_, ?_, ?_, ?_, ?_, ?_, ?_, ?_, ?_, ?_⟩
   · exact (by repeat (first | exact G62 | refine Off.st ?_ dC _))
   · exact rfl
   · exact rfl
   · exact ge_b373
   · exact (Nat.lt_trans lt_b12_b334 lt_b334_b373)
   · exact ge_b334
   · exact lt_b12_b334
   · exact (Nat.ne_of_gt lt_b334_b373)
   · exact hx
   · exact hy
   · exact hdx
   · exact hdy
   · exact hE
   · exact hb4
   · exact hb9
   · exact hb14
   · exact hn341
   · exact hd343
   · exact hn380
   · exact hd382
   · exact hb375
   exact hb336
  refine RS.run rfl rfl rfl dC (h_alloc (cs := [(.bool false), (.slice none 0 0), (.slice none 0 0)]) ty44 rfl) ?_ RS.nil
  rintro _ w396 ⟨b397, rfl, hs400, hb399, he398⟩
  refine rm he398 ?_
  have lt_b334_b397 := Nat.lt_of_lt_of_eq hb336.lt hs400.symm
  have ge_b397 := hE.ge hs400
  replace hE := hE.nx he398
  refine RA.all [1] kR rfl ?_
  replace hx := hx.tr (Sm.ext he398)
  replace hdx := hdx.tr (Sm.ext he398)
  refine RS.call rfl rfl rfl dC (r_call (vl := [(.agg #[(.bool sx), vx, ux])]) ent48 rfl) (r03_norm hx (by assumption) oS hdx (by assumption) oS (show ratOf sx (val x) (val dx) = qx from ex)) ?_ RS.nil
  rintro _ w401 ⟨⟨vn403, vd405, rfl, hn404, hd406, hl407, hl408⟩, he402⟩
  refine rm he402 ?_
  have hlv409 := den_one qx
  replace hn404 := hn404.fr hE
  replace hd406 := hd406.fr hE
  replace hE := hE.nx he402
  refine RA.all [3] kR rfl ?_
  have hm418 := Ext.trans he3 (Ext.trans he8 (Ext.trans he13 (Ext.trans he64 (Ext.trans he335 (Ext.trans he398 he402)))))
  replace hy := hy.tr (Sm.ext hm418)
  replace hdy := hdy.tr (Sm.ext hm418)
  refine RS.call rfl rfl rfl dC (r_call (vl := [(.agg #[(.bool sy), vy, uy])]) ent48 rfl) (r03_norm hy (by assumption) oS hdy (by assumption) oS (show ratOf sy (val y) (val dy) = qy from ey)) ?_ RS.nil
  rintro _ w410 ⟨⟨vn412, vd414, rfl, hn413, hd415, hl416, hl417⟩, he411⟩
  refine rm he411 ?_
  have hlv419 := den_one qy
  replace hn413 := hn413.fr hE
  replace hd415 := hd415.fr hE
  refine RA.all [6] kR rfl ?_
  replace hb399 := hb399.ext (Ext.trans he402 he411)
  refine RS.runs rfl rfl rfl (h_stA (cs := [(bd (qx.num < 0)), vn403, vd405]) (o := 0) ty44 rfl rfl rfl rfl (one_cons rfl (one_cons hn404.one (one_cons hd406.one one_nil))) hb399 bL) ?_ RS.nil
  rintro w420 ⟨hn421, hx422, hz423⟩
  refine ⟨.inr (.inl kR), ?_⟩
  have nb_hx422 := (Nb.of hb399 (nu_cons rfl (nu_cons rfl (nu_cons rfl nu_nil))))
  replace hb399 : Bk w420 b397 44 [(bd (qx.num < 0)), vn403, vd405] := hn421
  refine RA.all [7] kR rfl ?_
  have hm428 := Ext.trans he398 (Ext.trans he402 he411)
  replace hb336 := (hb336.ext hm428).exc hx422 (Nat.ne_of_lt lt_b334_b397)
  refine RS.runs rfl rfl rfl (h_stA (cs := [(bd (qy.num < 0)), vn412, vd414]) (o := 0) ty44 rfl rfl rfl rfl (one_cons rfl (one_cons hn413.one (one_cons hd415.one one_nil))) hb336 bL) ?_ RS.nil
  rintro w424 ⟨hn425, hx426, hz427⟩
  refine ⟨.inr (.inl kR), ?_⟩
  replace hE := ((hE.nx he411).nb hx422 ge_b397).nb hx426 ge_b334
  have nb_hx426 := (Nb.of hb336 (nu_cons rfl (nu_cons rfl (nu_cons rfl nu_nil))))
  replace hb336 : Bk w424 b334 44 [(bd (qy.num < 0)), vn412, vd414] := hn425
  refine RA.done kR ?_
  replace hx := ((hx.tr (Sm.ext (Ext.trans he402 he411))).apn hx422 nb_hx422).apn hx426 nb_hx426
  replace hy := ((hy.tr (Sm.ext he411)).apn hx422 nb_hx422).apn hx426 nb_hx426
  replace hdx := ((hdx.tr (Sm.ext (Ext.trans he402 he411))).apn hx422 nb_hx422).apn hx426 nb_hx426
  replace hdy := ((hdy.tr (Sm.ext he411)).apn hx422 nb_hx422).apn hx426 nb_hx426
  have hm429 := Ext.trans he335 (Ext.trans he398 (Ext.trans he402 he411))
  replace hb4 := ((hb4.ext hm429).exc hx422 (Nat.ne_of_lt (Nat.lt_trans lt_b2_b7 (Nat.lt_trans lt_b7_b12 (Nat.lt_trans lt_b12_b334 lt_b334_b397))))).exc hx426 (Nat.ne_of_lt (Nat.lt_trans lt_b2_b7 (Nat.lt_trans lt_b7_b12 lt_b12_b334)))
  replace hb9 := ((hb9.ext hm429).exc hx422 (Nat.ne_of_lt (Nat.lt_trans lt_b7_b12 (Nat.lt_trans lt_b12_b334 lt_b334_b397)))).exc hx426 (Nat.ne_of_lt (Nat.lt_trans lt_b7_b12 lt_b12_b334))
  replace hb14 := ((hb14.ext hm429).exc hx422 (Nat.ne_of_lt (Nat.lt_trans lt_b12_b334 lt_b334_b397))).exc hx426 (Nat.ne_of_lt lt_b12_b334)
  replace hn404 := ((hn404.tr (Sm.ext he411)).apn hx422 nb_hx422).apn hx426 nb_hx426
  replace hd406 := ((hd406.tr (Sm.ext he411)).apn hx422 nb_hx422).apn hx426 nb_hx426
  replace hn413 := (hn413.apn hx422 nb_hx422).apn hx426 nb_hx426
  replace hd415 := (hd415.apn hx422 nb_hx422).apn hx426 nb_hx426
  replace hb399 := hb399.exc hx426 (Nat.ne_of_gt lt_b334_b397)
  refine ⟨b397, b334, vn403, vd405, vn412, vd414, ?_, ?_, ?_, ?_, ?_, ?_, ?_, ?_, ?_, ?_, ?_, ?_, ?_, ?_, ?_, ?_, ?_, ?_, ?_, ?_, ?_, ?_⟩
  · exact (by repeat (first | exact G62 | refine Off.st ?_ dC _))
  · exact rfl
  · exact rfl
  · exact ge_b397
  · exact (Nat.lt_trans lt_b12_b334 lt_b334_b397)
  · exact ge_b334
  · exact lt_b12_b334
  · exact (Nat.ne_of_gt lt_b334_b397)
  · exact hx
  · exact hy
  · exact hdx
  · exact hdy
  · exact hE
  · exact hb4
  · exact hb9
  · exact hb14
  · exact hn404
  · exact hd406
  · exact hn413
  · exact hd415
  · exact hb399
  exact hb336
 clear hx hy hdx hdy hE hb4 hb9 hb14
 rintro f430 w431 ⟨b44, b50, vn25, vd27, vn35, vd37, G432, hs433, hs434, ge_b44, lt_b12_b44, ge_b50, lt_b12_b50, ne_b44_b50, hx, hy, hdx, hdy, hE, hb4, hb9, hb14, hn26, hd28, hn36, hd38, hb46, hb52⟩
 refine wseq ?_
 refine wdraw mixed fun w435 he436 => ?_
 replace hE := hE.nx he436
 refine ra 0 rfl (fun _ => r_fieldAddr uT44 rfl ty42 hs433) ?_
 replace hb46 := hb46.ext he436
 have hc437 := hb46.cells (o := 0) (cs := [(bd (qx.num < 0)), vn25]) rfl
 refine aR 1 rfl (fun u hu => r_loada (o := 0) (cs := [(bd (qx.num < 0)), vn25]) uT42 ag42 ty42 rfl (fun j v hj => cell_ext hu (hc437 j v hj))) ?_
 replace hb9 := hb9.ext he436
 have hc438 := hb9.cells (o := 0) (cs := [(.bool sy), vy, uy]) rfl
 refine aR 2 rfl (fun u hu => r_loada (o := 0) (cs := [(.bool sy), vy, uy]) uT44 ag44 ty44 ((G432 3 rfl).trans (hF17 3)) (fun j v hj => cell_ext hu (hc438 j v hj))) ?_
 refine ra 5 rfl (fun _ => r_fieldAddr uT44 rfl ty42 hs434) ?_
 replace hb52 := hb52.ext he436
 have hc439 := hb52.cells (o := 0) (cs := [(bd (qy.num < 0)), vn35]) rfl
 refine aR 6 rfl (fun u hu => r_loada (o := 0) (cs := [(bd (qy.num < 0)), vn35]) uT42 ag42 ty42 rfl (fun j v hj => cell_ext hu (hc439 j v hj))) ?_
 replace hb4 := hb4.ext he436
 have hc440 := hb4.cells (o := 0) (cs := [(.bool sx), vx, ux]) rfl
 refine aR 7 rfl (fun u hu => r_loada (o := 0) (cs := [(.bool sx), vx, ux]) uT44 ag44 ty44 ((G432 2 rfl).trans (hF17 2)) (fun j v hj => cell_ext hu (hc440 j v hj))) ?_
 have hc441 := hb4.cells (o := 0) (cs := [(.bool sx), vx, ux]) rfl
 refine aR 11 rfl (fun u hu => r_loada (o := 0) (cs := [(.bool sx), vx, ux]) uT44 ag44 ty44 ((G432 2 rfl).trans (hF17 2)) (fun j v hj => cell_ext hu (hc441 j v hj))) ?_
 have hc442 := hb9.cells (o := 0) (cs := [(.bool sy), vy, uy]) rfl
 refine aR 13 rfl (fun u hu => r_loada (o := 0) (cs := [(.bool sy), vy, uy]) uT44 ag44 ty44 ((G432 3 rfl).trans (hF17 3)) (fun j v hj => cell_ext hu (hc442 j v hj))) ?_
 refine RA.all [3] kR rfl ?_
 replace hy := hy.tr (Sm.ext he436)
 replace hdy := hdy.tr (Sm.ext he436)
 refine RS.call rfl rfl rfl dC (r_call (vl := [(.agg #[(.bool sy), vy, uy])]) ent97 rfl) (r03_den hy (by assumption) oS hdy (by assumption) oS (show ratOf sy (val y) (val dy) = qy from ey)) ?_ RS.nil
 rintro _ w443 ⟨⟨vr445, rfl, hr446, hl447⟩, he444⟩
 refine rm he444 ?_
 replace hr446 := hr446.fr hE
 replace hE := hE.nx he444
 refine RA.all [4] kR rfl ?_
 replace hn26 := hn26.tr (Sm.ext (Ext.trans he436 he444))
 refine RS.call rfl rfl rfl dC (r_call (vl := [(.agg #[(bd (qx.num < 0)), vn25]), (.agg #[(bd (((qy.den : Nat) : Int) < 0)), vr445])]) ent96 rfl) (r02_mul hn26 (digs_lm _) oS (sg_canon _) hr446 (digs_lm _) oS (sg_canon _)) ?_ RS.nil
 rintro _ w448 ⟨⟨vr450, rfl, hr451, hl452⟩, he449⟩
 refine rm he449 ?_
 replace hr451 := hr451.fr hE
 replace hE := hE.nx he449
 refine RA.all [8] kR rfl ?_
 have hm458 := Ext.trans he436 (Ext.trans he444 he449)
 replace hx := hx.tr (Sm.ext hm458)
 replace hdx := hdx.tr (Sm.ext hm458)
 refine RS.call rfl rfl rfl dC (r_call (vl := [(.agg #[(.bool sx), vx, ux])]) ent97 rfl) (r03_den hx (by assumption) oS hdx (by assumption) oS (show ratOf sx (val x) (val dx) = qx from ex)) ?_ RS.nil
 rintro _ w453 ⟨⟨vr455, rfl, hr456, hl457⟩, he454⟩
 refine rm he454 ?_
 replace hr456 := hr456.fr hE
 replace hE := hE.nx he454
 refine RA.all [9] kR rfl ?_
 have hm464 := Ext.trans hm458 he454
 replace hn36 := hn36.tr (Sm.ext hm464)
 refine RS.call rfl rfl rfl dC (r_call (vl := [(.agg #[(bd (qy.num < 0)), vn35]), (.agg #[(bd (((qx.den : Nat) : Int) < 0)), vr455])]) ent96 rfl) (r02_mul hn36 (digs_lm _) oS (sg_canon _) hr456 (digs_lm _) oS (sg_canon _)) ?_ RS.nil
 rintro _ w459 ⟨⟨vr461, rfl, hr462, hl463⟩, he460⟩
 refine rm he460 ?_
 replace hr462 := hr462.fr hE
 replace hE := hE.nx he460
 refine RA.all [10] kR rfl ?_
 replace hr451 := hr451.tr (Sm.ext (Ext.trans he454 he460))
 refine RS.call rfl rfl rfl dC (r_call (vl := [(.agg #[(bd ((qx.num * ((qy.den : Nat) : Int)) < 0)), vr450]), (.agg #[(bd ((qy.num * ((qx.den : Nat) : Int)) < 0)), vr461])]) ent95 rfl) (r02_add hr451 (digs_lm _) oS (sg_canon _) hr462 (digs_lm _) oS (sg_canon _)) ?_ RS.nil
 rintro _ w465 ⟨⟨vr467, rfl, hr468, hl469⟩, he466⟩
 refine rm he466 ?_
 replace hr468 := hr468.fr hE
 replace hE := hE.nx he466
 refine RA.all [12] kR rfl ?_
 have hm475 := Ext.trans he454 (Ext.trans he460 he466)
 replace hx := hx.tr (Sm.ext hm475)
 replace hdx := hdx.tr (Sm.ext hm475)
 refine RS.call rfl rfl rfl dC (r_call (vl := [(.agg #[(.bool sx), vx, ux])]) ent97 rfl) (r03_den hx (by assumption) oS hdx (by assumption) oS (show ratOf sx (val x) (val dx) = qx from ex)) ?_ RS.nil
 rintro _ w470 ⟨⟨vr472, rfl, hr473, hl474⟩, he471⟩
 refine rm he471 ?_
 replace hr473 := hr473.fr hE
 replace hE := hE.nx he471
 refine RA.all [14] kR rfl ?_
 have hm481 := Ext.trans he444 (Ext.trans he449 (Ext.trans he454 (Ext.trans he460 (Ext.trans he466 he471))))
 replace hy := hy.tr (Sm.ext hm481)
 replace hdy := hdy.tr (Sm.ext hm481)
 refine RS.call rfl rfl rfl dC (r_call (vl := [(.agg #[(.bool sy), vy, uy])]) ent97 rfl) (r03_den hy (by assumption) oS hdy (by assumption) oS (show ratOf sy (val y) (val dy) = qy from ey)) ?_ RS.nil
 rintro _ w476 ⟨⟨vr478, rfl, hr479, hl480⟩, he477⟩
 refine rm he477 ?_
 replace hr479 := hr479.fr hE
 replace hE := hE.nx he477
 refine RA.all [15] kR rfl ?_
 replace hr473 := hr473.tr (Sm.ext he477)
 refine RS.call rfl rfl rfl dC (r_call (vl := [(.agg #[(bd (((qx.den : Nat) : Int) < 0)), vr472]), (.agg #[(bd (((qy.den : Nat) : Int) < 0)), vr478])]) ent96 rfl) (r02_mul hr473 (digs_lm _) oS (sg_canon _) hr479 (digs_lm _) oS (sg_canon _)) ?_ RS.nil
 rintro _ w482 ⟨⟨vr484, rfl, hr485, hl486⟩, he483⟩
 refine rm he483 ?_
 replace hr485 := hr485.fr hE
 replace hE := hE.nx he483
 refine RA.all [16] kR rfl ?_
 have hm495 := Ext.trans he471 (Ext.trans he477 he483)
 replace hr468 := hr468.tr (Sm.ext hm495)
 refine RS.call rfl rfl rfl dC (r_call (vl := [(.agg #[(bd (((qx.num * ((qy.den : Nat) : Int)) + (qy.num * ((qx.den : Nat) : Int))) < 0)), vr467]), (.agg #[(bd ((((qx.den : Nat) : Int) * ((qy.den : Nat) : Int)) < 0)), vr484])]) ent55 rfl) (r03_make hr468 (digs_lm _) oS (sg_canon _) hr485 (digs_lm _) oS (sg_canon _)) ?_ RS.nil
 rintro _ w487 ⟨⟨vn489, vd491, rfl, hn490, hd492, hl493, hl494⟩, he488⟩
 refine rm he488 ?_
 have hlv496 := den_one (Rat.divInt ((qx.num * ((qy.den : Nat) : Int)) + (qy.num * ((qx.den : Nat) : Int))) (((qx.den : Nat) : Int) * ((qy.den : Nat) : Int)))
 replace hn490 := hn490.fr hE
 replace hd492 := hd492.fr hE
 refine RA.all [17] kR rfl ?_
 have hm501 := Ext.trans he436 (Ext.trans he444 (Ext.trans he449 (Ext.trans he454 (Ext.trans he460 (Ext.trans he466 (Ext.trans he471 (Ext.trans he477 (Ext.trans he483 he488))))))))
 replace hb14 := hb14.ext hm501
 refine RS.runs rfl rfl rfl (h_stA (cs := [(bd ((Rat.divInt ((qx.num * ((qy.den : Nat) : Int)) + (qy.num * ((qx.den : Nat) : Int))) (((qx.den : Nat) : Int) * ((qy.den : Nat) : Int))).num < 0)), vn489, vd491]) (o := 0) ty44 ((G432 4 rfl).trans (hF17 4)) rfl rfl rfl (one_cons rfl (one_cons hn490.one (one_cons hd492.one one_nil))) hb14 bL) ?_ RS.nil
 rintro w497 ⟨hn498, hx499, hz500⟩
 refine ⟨.inr (.inl kR), ?_⟩
 replace hE := (hE.nx he488).nb hx499 ge_b12
 have nb_hx499 := (Nb.of hb14 (nu_cons rfl (nu_cons rfl (nu_cons rfl nu_nil))))
 replace hb14 : Bk w497 b12 44 [(bd ((Rat.divInt ((qx.num * ((qy.den : Nat) : Int)) + (qy.num * ((qx.den : Nat) : Int))) (((qx.den : Nat) : Int) * ((qy.den : Nat) : Int))).num < 0)), vn489, vd491] := hn498
 refine RA.done kR ?_
 refine wret ?_
 refine ⟨[(.agg #[(bd ((Rat.divInt ((qx.num * ((qy.den : Nat) : Int)) + (qy.num * ((qx.den : Nat) : Int))) (((qx.den : Nat) : Int) * ((qy.den : Nat) : Int))).num < 0)), vn489, vd491])], ⟨⟨_, _, [(bd ((Rat.divInt ((qx.num * ((qy.den : Nat) : Int)) + (qy.num * ((qx.den : Nat) : Int))) (((qx.den : Nat) : Int) * ((qy.den : Nat) : Int))).num < 0)), vn489, vd491], ((G432 4 rfl).trans (hF17 4)), ⟨_, uT44⟩, hb14.cells rfl, .inl ⟨ag44, ⟨_, _, ty44⟩, rfl⟩⟩, trivial⟩, ?_⟩
 have hq : (Rat.divInt ((qx.num * ((qy.den : Nat) : Int)) + (qy.num * ((qx.den : Nat) : Int))) (((qx.den : Nat) : Int) * ((qy.den : Nat) : Int))) = (qx + qy) := radd_law qx qy
 rw [← hq]
 replace hn490 := hn490.apn hx499 nb_hx499
 replace hd492 := hd492.apn hx499 nb_hx499
 exact ⟨⟨_, _, rfl, hn490, hd492, by omega, by omega⟩, hE⟩
end Go.Proofs.YtelbjmhhbeijkaaGreat
namespace Go.Proofs.YtelbjmhhbeijkaaGreat
open Go.Vg Go.RowKit _root_.Go.Proofs.Tryz
set_option linter.unusedVariables false
open Go.Vm
theorem get_tk {es : List Ent'} {i : Int} {k : Nat} (h : k < es.length) (he : (es.getD k default).1 = i) : get (es.take (k + 1)) i = get (es.take k) i + (es.getD k default).2 := by
  rw [take_snoc es k h, get_append]
  show _ + ((if (es.getD k default).1 = i then (es.getD k default).2 else 0) + 0) = _
  rw [if_pos he, Rat.add_zero]
theorem get_tn {es : List Ent'} {i : Int} {k : Nat} (h : k < es.length) (he : ¬ (es.getD k default).1 = i) : get (es.take (k + 1)) i = get (es.take k) i := by
  rw [take_snoc es k h, get_append]
  show _ + ((if (es.getD k default).1 = i then (es.getD k default).2 else 0) + 0) = _
  rw [if_neg he, Rat.add_zero, Rat.add_zero]
set_option maxHeartbeats 4000000 in
theorem r06_get {w : World} {Des : Nat → TypeId → Prop} {ves : Value} {es : List Ent'} {L M : Nat} (hes0 : Es L Des w ves es) (hM : (es.length + 1) * (L + 3) + 3 ≤ M) (hMB : M ≤ 8589934000) {i : Int} :
    Calls Tryz.prog 39 #[ves, (iv i)] w fun e w' => ∃ v, e = .returned v ∧ (∃ vn vd, v = .agg #[.bool (decide ((get es i).num < 0)), vn, vd] ∧ Sg (gN .u32) (fun b T => w.heap.size ≤ b ∧ T = 89) w' vn (digs (get es i).num.natAbs) ∧ Sg (gN .u32) (fun b T => w.heap.size ≤ b ∧ T = 89) w' vd (digs (get es i).den) ∧ (digs (get es i).num.natAbs).length ≤ M ∧ (digs (get es i).den).length ≤ M) ∧ Ext w w' := by
 have hE : Below w.heap.size w w := Below.refl _ _
 have hes := hes0.old
 clear hes0
 have hlm := Nat.add_one_mul es.length (L + 3)
 refine calls_of (n := 29) (rs := [.cell 4 44]) func39 rfl rfl rfl bL ?_
 refine wset fun F0 hF0 => ?_
 refine wsr ?_
 refine rU (h_alloc (cs := [(.bool false), (.slice none 0 0), (.slice none 0 0)]) ty44 rfl) ?_
 rintro _ w1 ⟨b2, rfl, hs5, hb4, he3⟩
 have ge_b2 := hE.ge hs5
 replace hE := hE.nx he3
 refine RL.nil (wsr ?_)
 refine cL ent62 (r03_zero ) rfl ?_
 rintro _ w6 ⟨⟨vn8, vd10, rfl, hn9, hd11, hl12, hl13⟩, he7⟩
 have hlv14 := den_one (0 : Rat)
 replace hn9 := hn9.fr hE
 replace hd11 := hd11.fr hE
 replace hE := hE.nx he7
 refine rU (h_alloc (cs := [(.bool false), (.slice none 0 0), (.slice none 0 0)]) ty44 rfl) ?_
 rintro _ w15 ⟨b16, rfl, hs19, hb18, he17⟩
 replace hb4 := hb4.ext he7
 have lt_b2_b16 := Nat.lt_of_lt_of_eq hb4.lt hs19.symm
 have ge_b16 := hE.ge hs19
 refine RL.runs rfl rfl (h_stA (cs := [(bd ((0 : Rat).num < 0)), vn8, vd10]) (o := 0) ty44 rfl rfl rfl rfl (one_cons rfl (one_cons hn9.one (one_cons hd11.one one_nil))) hb18 bL) ?_
 rintro w20 ⟨hn21, hx22, hz23⟩
 replace hE := (hE.nx he17).nb hx22 ge_b16
 have nb_hx22 := (Nb.of hb18 (nu_cons rfl (nu_cons rfl (nu_cons rfl nu_nil))))
 replace hb18 : Bk w20 b16 44 [(bd ((0 : Rat).num < 0)), vn8, vd10] := hn21
 refine RL.nil (wseq (wsr (aS (v := (iv 0)) rfl (RL.nil ?_))))
 refine wblock ?_
 refine wset fun F24 hF25 => ?_
 refine wloop (σ := Nat × Value × Value) (fun (s : Nat × Value × Value) fl wl => match s with | (k, va, vd) => Off (6 :: (rg 8 20 [])) F24 fl ∧ fl 6 = (iv k) ∧ (k ≤ es.length) ∧ ((digs (get (es.take k) i).num.natAbs).length ≤ (L + 6) + k * (L + 3)) ∧ ((digs (get (es.take k) i).den).length ≤ 1 + k * (L + 3)) ∧ (Bk wl b16 44 [.bool (decide ((get (es.take k) i).num < 0)), va, vd]) ∧ (Sg (gN .u32) (fun b T => w.heap.size ≤ b ∧ T = 89) wl va (digs (get (es.take k) i).num.natAbs)) ∧ (Sg (gN .u32) (fun b T => w.heap.size ≤ b ∧ T = 89) wl vd (digs (get (es.take k) i).den)) ∧ (Below w.heap.size w wl) ∧ (Es L (fun b T => Des b T ∧ b < w.heap.size) wl ves es) ∧ (Bk wl b2 44 [(.bool false), (.slice none 0 0), (.slice none 0 0)]) ∧ (Sg (gN .u32) (fun b T => w.heap.size ≤ b ∧ T = 89) wl vn8 (digs (0 : Rat).num.natAbs)) ∧ (Sg (gN .u32) (fun b T => w.heap.size ≤ b ∧ T = 89) wl vd10 (digs (0 : Rat).den))) (fun (s : Nat × Value × Value) => match s with | (k, va, vd) => es.length - k) (0, vn8, vd10) ?_ ?_
 ·replace hn9 := (hn9.tr (Sm.ext he17)).apn hx22 nb_hx22
  replace hd11 := (hd11.tr (Sm.ext he17)).apn hx22 nb_hx22
  have hm26 := Ext.trans he3 (Ext.trans he7 he17)
  replace hes := (hes.tr (Sm.ext hm26)).tr (Sm.exc hx22 (fun _ _ _ _ hd => absurd hd.2 (Nat.not_lt_of_le ge_b16)))
  replace hb4 := (hb4.ext he17).exc hx22 (Nat.ne_of_lt lt_b2_b16)
  exact ⟨Off.refl _ _, (hF25 6).trans (rfl), Nat.zero_le _, Nat.zero_le _, (by rw [Nat.zero_mul]; exact Nat.le_refl _), hb18, hn9, hd11, hE, hes, hb4, hn9, hd11⟩
 clear hes hE hb4 hn9 hd11 hb18
 rintro ⟨k, va, vd⟩ f27 w28 ⟨G29, hs30, hk, hp, hq, hb18, ha, hd, hE, hes, hb4, hn9, hd11⟩
 refine wseq (wsr (mV hs30 (mV (v := ves) ((G29 0 rfl).trans ((hF25 0).trans (hF0 0))) ?_)))
 obtain ⟨A31, c32, hv33, hc34, hc35⟩ := hes.len
 refine rV (r_len uT22 hv33) (rV (r_lss (k := .i64) (a := (k : Int)) (b := ((es.length : Nat) : Int)) rfl rfl) (RL.nil ?_))
 refine wcD (p := (k : Int) < ((es.length : Nat) : Int)) rfl (fun hb36 hb36p => ?_) (fun hb36 hb36p => ?_)
 ·refine wskip ?_
  refine wseq ?_
  refine wblock ?_
  refine wseq ?_
  have hkl : k < es.length := by omega
  have hkm := Nat.add_one_mul k (L + 3)
  have hkn := Nat.mul_le_mul_right (L + 3) (show k + 1 ≤ es.length by omega)
  refine wregion (mV (v := ves) ((G29 0 rfl).trans ((hF25 0).trans (hF0 0))) (mV hs30 ?_))
  obtain ⟨b37, o38, c39, s44, A42, B43, x45, d46, hv40, hc41, hx47, lm48, ln49, hd50, lm51, ln52, eq53⟩ := hes.ix (i := (k : Int)) (k) oM oM
  refine rV (r_indexAddr (i := (k : Int)) uT22 ty55 hv40 rfl oM oM) (rV (r_fieldAddr uT55 rfl ty3 rfl) (rV (r_load (v := (iv ((es.getD (k) default).1))) uT3 ag3 rfl (hc41 0 _ rfl)) (mV (v := (iv i)) ((G29 1 rfl).trans ((hF25 1).trans (hF0 1))) (rV (r_eql (k := .i64) (a := (es.getD (k) default).1) (b := i) rfl rfl) (RL.nil ?_)))))
  refine wcD (p := ((es.getD (k) default).1) = i) rfl (fun hb54 hb54p => ?_) (fun hb54 hb54p => ?_)
  ·have heq := hb54p
   refine wdraw mixed fun w55 he56 => ?_
   replace hE := hE.nx he56
   replace hb18 := hb18.ext he56
   have hc57 := hb18.cells (o := 0) (cs := [(bd ((get (es.take k) i).num < 0)), va, vd]) rfl
   refine aR 0 rfl (fun u hu => r_loada (o := 0) (cs := [(bd ((get (es.take k) i).num < 0)), va, vd]) uT44 ag44 ty44 ((G29 5 rfl).trans (hF25 5)) (fun j v hj => cell_ext hu (hc57 j v hj))) ?_
   refine aM 1 rfl (v := ves) ((G29 0 rfl).trans ((hF25 0).trans (hF0 0))) ?_
   refine aM 2 rfl (v := (iv k)) hs30 ?_
   replace hes := hes.tr (Sm.ext he56)
   obtain ⟨b58, o59, c60, s65, A63, B64, x66, d67, hv61, hc62, hx68, lm69, ln70, hd71, lm72, ln73, eq74⟩ := hes.ix (i := (k : Int)) (k) oM oM
   refine ra 3 rfl (fun _ => r_indexAddr (i := (k : Int)) uT22 ty55 hv61 rfl oM oM) ?_
   refine ra 4 rfl (fun _ => r_fieldAddr uT55 rfl ty44 rfl) ?_
   refine aR 5 rfl (fun u hu => r_loada (cs := [(.bool s65), (sv A63), (sv B64)]) uT44 ag44 ty44 rfl (fun j v hj => cell_ext hu ((cdrop hc62 1) j v hj))) ?_
   refine RA.all [6] kR rfl ?_
   replace ha := ha.tr (Sm.ext he56)
   replace hd := hd.tr (Sm.ext he56)
   refine RS.call rfl rfl rfl dC (r_call (vl := [(.agg #[(bd ((get (es.take k) i).num < 0)), va, vd]), (.agg #[(.bool s65), (sv A63), (sv B64)])]) ent63 rfl) (r03_add ha (digs_lm _) oS hd (digs_lm _) oS (ratOf_canon _) hx68 lm69 oS hd71 lm72 oS (show ratOf s65 (val x66) (val d67) = (es.getD (k) default).2 from eq74)) ?_ RS.nil
   rintro _ w75 ⟨⟨vn77, vd79, rfl, hn78, hd80, hl81, hl82⟩, he76⟩
   refine rm he76 ?_
   have hlv83 := den_one ((get (es.take k) i) + ((es.getD (k) default).2))
   replace hn78 := hn78.fr hE
   replace hd80 := hd80.fr hE
   refine RA.all [7] kR rfl ?_
   replace hb18 := hb18.ext he76
   refine RS.runs rfl rfl rfl (h_stA (cs := [(bd (((get (es.take k) i) + ((es.getD (k) default).2)).num < 0)), vn77, vd79]) (o := 0) ty44 ((G29 5 rfl).trans (hF25 5)) rfl rfl rfl (one_cons rfl (one_cons hn78.one (one_cons hd80.one one_nil))) hb18 bL) ?_ RS.nil
   rintro w84 ⟨hn85, hx86, hz87⟩
   refine ⟨.inr (.inl kR), ?_⟩
   replace hE := (hE.nx he76).nb hx86 ge_b16
   have nb_hx86 := (Nb.of hb18 (nu_cons rfl (nu_cons ha.nu (nu_cons hd.nu nu_nil))))
   replace hb18 : Bk w84 b16 44 [(bd (((get (es.take k) i) + ((es.getD (k) default).2)).num < 0)), vn77, vd79] := hn85
   refine RA.done kR ?_
   refine wregion (mV hs30 (rV (r_add (k := .i64) (a := (k : Int)) (b := 1) (c := (k : Int) + 1) rfl rfl (wi64 oM)) (aS (v := (iv ((k : Int) + 1))) rfl (RL.nil ?_))))
   replace hn78 := hn78.apn hx86 nb_hx86
   replace hd80 := hd80.apn hx86 nb_hx86
   replace hes := (hes.tr (Sm.ext he76)).tr (Sm.exc hx86 (fun _ _ _ _ hd => absurd hd.2 (Nat.not_lt_of_le ge_b16)))
   replace hb4 := (hb4.ext (Ext.trans he56 he76)).exc hx86 (Nat.ne_of_lt lt_b2_b16)
   replace hn9 := (hn9.tr (Sm.ext (Ext.trans he56 he76))).apn hx86 nb_hx86
   replace hd11 := (hd11.tr (Sm.ext (Ext.trans he56 he76))).apn hx86 nb_hx86
   refine ⟨(k + 1, vn77, vd79), ⟨?_, ?_, ?_, ?_, ?_, ?_, ?_, ?_, ?_, ?_, ?_, ?_, ?_⟩, ?_⟩
   · exact (by repeat (first | exact G29 | refine Off.st ?_ dC _))
   · first | rfl | exact int_eq oM | exact bool_eq (by simp)
   · omega
   · first | (simp only [get_tk hkl heq]; omega) | (simp only [get_tn hkl heq]; omega)
   · first | (simp only [get_tk hkl heq]; omega) | (simp only [get_tn hkl heq]; omega)
   · first | (rw [get_tk hkl heq]; exact hb18) | (rw [get_tn hkl heq]; exact hb18)
   · first | (rw [get_tk hkl heq]; exact hn78) | (rw [get_tn hkl heq]; exact hn78)
   · first | (rw [get_tk hkl heq]; exact hd80) | (rw [get_tn hkl heq]; exact hd80)
   · exact hE
   · exact hes
   · exact hb4
   · exact hn9
   · exact hd11
   (try dsimp only)
   omega
  have heq := hb54p
  refine wskip ?_
  refine wregion (mV hs30 (rV (r_add (k := .i64) (a := (k : Int)) (b := 1) (c := (k : Int) + 1) rfl rfl (wi64 oM)) (aS (v := (iv ((k : Int) + 1))) rfl (RL.nil ?_))))
  refine ⟨(k + 1, va, vd), ⟨?_, ?_, ?_, ?_, ?_, ?_, ?_, ?_, ?_, ?_, ?_, ?_, ?_⟩, ?_⟩
  · exact (by repeat (first | exact G29 | refine Off.st ?_ dC _))
  · first | rfl | exact int_eq oM | exact bool_eq (by simp)
  · omega
  · first | (simp only [get_tk hkl heq]; omega) | (simp only [get_tn hkl heq]; omega)
  · first | (simp only [get_tk hkl heq]; omega) | (simp only [get_tn hkl heq]; omega)
  · first | (rw [get_tk hkl heq]; exact hb18) | (rw [get_tn hkl heq]; exact hb18)
  · first | (rw [get_tk hkl heq]; exact ha) | (rw [get_tn hkl heq]; exact ha)
  · first | (rw [get_tk hkl heq]; exact hd) | (rw [get_tn hkl heq]; exact hd)
  · exact hE
  · exact hes
  · exact hb4
  · exact hn9
  · exact hd11
  (try dsimp only)
  omega
 refine wexit ?_
 refine wseq ?_
 have hke : es.take k = es := List.take_of_length_le oM
 refine wregion ?_
 have hc88 := hb18.cells (o := 0) (cs := [(bd ((get (es.take k) i).num < 0)), va, vd]) rfl
 refine rV (r_loada (o := 0) (cs := [(bd ((get (es.take k) i).num < 0)), va, vd]) uT44 ag44 ty44 ((G29 5 rfl).trans (hF25 5)) hc88) ?_
 refine RL.runs rfl rfl (h_stA (cs := [(bd ((get (es.take k) i).num < 0)), va, vd]) (o := 0) ty44 ((G29 4 rfl).trans (hF25 4)) rfl rfl rfl (one_cons rfl (one_cons ha.one (one_cons hd.one one_nil))) hb4 bL) ?_
 rintro w89 ⟨hn90, hx91, hz92⟩
 replace hE := hE.nb hx91 ge_b2
 have nb_hx91 := (Nb.of hb4 (nu_cons rfl (nu_cons rfl (nu_cons rfl nu_nil))))
 replace hb4 : Bk w89 b2 44 [(bd ((get (es.take k) i).num < 0)), va, vd] := hn90
 refine RL.nil ?_
 refine wret ?_
 refine ⟨[(.agg #[(bd ((get (es.take k) i).num < 0)), va, vd])], ⟨⟨_, _, [(bd ((get (es.take k) i).num < 0)), va, vd], ((G29 4 rfl).trans (hF25 4)), ⟨_, uT44⟩, hb4.cells rfl, .inl ⟨ag44, ⟨_, _, ty44⟩, rfl⟩⟩, trivial⟩, ?_⟩
 replace ha := ha.apn hx91 nb_hx91
 replace hd := hd.apn hx91 nb_hx91
 rw [hke] at hp hq ha hd ⊢
 rw [show k = es.length by omega] at hp hq
 exact ⟨⟨_, _, rfl, ha, hd, by omega, by omega⟩, hE⟩
end Go.Proofs.YtelbjmhhbeijkaaGreat
