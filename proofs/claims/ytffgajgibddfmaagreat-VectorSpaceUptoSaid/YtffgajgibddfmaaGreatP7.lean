/- VectorSpace, second form: for arguments of bulk at most 1048576 the law returns true and the arguments read as before; no other condition. Part 7 of 8: Vgs Xb Xc Nm Ew Xd Xe Xf Zo. -/
import Derived.Test.YtffgajgibddfmaaGreatRows
import Derived.Deep.SlicePairs
import Derived.Test.YtffgajgibddfmaaGreatP6
namespace Go.Vg
open Go Go.RowKit Go.Vm
def Oz (L : Nat) (D : Nat → TypeId → Prop) (w : World) (lo : Nat) (T : TypeId) (v : Value) (es : List Ent') : Prop := ∃ xs, Ow w lo T 4 v xs.length (xs.map entC).flatten ∧ Fe (Ez L D w) xs es
section
variable {L L' : Nat} {D D' : Nat → TypeId → Prop} {w w' : World} {lo b : Nat} {T T' : TypeId} {v : Value} {es : List Ent'} {l : List Value}
theorem Oz.nil : Oz L D w lo T (.slice none 0 0) [] := ⟨[], Ow.nil lo 4, Fe.nil⟩
theorem Oz.ext (h : Oz L D w lo T v es) (e : Ext w w') : Oz L D w' lo T v es := by
  obtain ⟨xs, h1, h2⟩ := h
  exact ⟨xs, h1.ext e, h2.imp fun _ _ h => h.tr (Sm.ext e)⟩
theorem Oz.exo (h : Oz L D w lo T v es) (e : Exc b w w') (hne : v.ownBlock ≠ some b) (hb : Nb w b) : Oz L D w' lo T v es := by
  obtain ⟨xs, h1, h2⟩ := h
  exact ⟨xs, h1.exo e hne, h2.imp fun _ _ h => h.apn e hb⟩
theorem Oz.lt (h : Oz L D w lo T v es) (b : Nat) (hb : v.ownBlock = some b) : b < w.heap.size := by obtain ⟨xs, h1, h2⟩ := h; exact (World.ownsRow.lt h1 b hb).2
theorem Oz.one (h : Oz L D w lo T v es) : v.oneCell' = true := by obtain ⟨xs, h1, h2⟩ := h; exact h1.one
theorem Oz.len (h : Oz L D w lo T v es) : ∃ A c, v = .slice A es.length c ∧ es.length ≤ c ∧ c ≤ 9223372036854775807 := by obtain ⟨xs, h1, h2⟩ := h; rw [← h2.1]; exact h1.len
theorem Oz.gsm (h : Oz L D w lo T v es) (hg : w.grownBy w' v.ownBlock) (hD : ∀ b, lo ≤ b → ¬ D' b T) : Sm D' w w' := by obtain ⟨xs, h1, h2⟩ := h; exact h1.sm hg hD
theorem Oz.gbk (h : Oz L D w lo T v es) (hg : w.grownBy w' v.ownBlock) (hb : Bk w b T' l) (hne : T' ≠ T) : Bk w' b T' l := by obtain ⟨xs, h1, h2⟩ := h; exact h1.bk hg hb (.inr hne)
theorem Oz.gbo (_h : Oz L D w lo T v es) (hg : w.grownBy w' v.ownBlock) (hb : Bk w b T' l) (hne : v.ownBlock ≠ some b) : Bk w' b T' l := (hg.block b hb.lt (fun he => hne he.symm)).trans hb
theorem Oz.gbe {w0 : World} {B : Nat} (h : Oz L D w lo T v es) (hg : w.grownBy w' v.ownBlock) (hE : Below B w0 w) (hB : B ≤ lo) (hs : B ≤ w.heap.size) : Below B w0 w' := by
  obtain ⟨xs, h1, h2⟩ := h
  exact h1.below hg hE hB hs
theorem Oz.rd (h : Oz L D w lo T v es) (h1 : ∀ b, lo ≤ b → D' b T) (h2 : ∀ b T, D b T → D' b T) : Es L D' w v es := by
  obtain ⟨xs, g1, g2⟩ := h
  exact ⟨xs, g1.ss rfl rfl (by decide) (fun _ _ => rfl) h1, g2.imp fun _ _ h => h.mono h2⟩
end
section
variable {P : Program} {f : Nat → Value} {w : World} {dst : Option Tmp} {ty : TypeId} {pos : String} {aft : Array Edge} {g : Option (Nat × Bool)} {x y z : Operand} {t e : TypeId} {D D2 : Nat → TypeId → Prop}
theorem h_appendZ {L lo bytes : Nat} {zz v1 v2 : Value} {es : List Ent'} {i0 : Int} {s : Bool} {vn vd : Value} {q : Rat} (hu : P.underlying t = some (.slice e)) (ht : TyI P e 4 bytes zz) (hz : zz.cells.size = 4) (hx : ev f x = v1) (hy : ev f y = v2)
    (ho : Oz L D w lo e v1 es) (hs : Sc D2 w 4 v2 1 [.int .i64 i0, .bool s, vn, vd]) (hq : Rz L D w (s, vn, vd) q) (hD : ∀ b, lo ≤ b → ¬ D b e) (h63 : es.length + 1 ≤ maxLen) (hby : (es.length + 1) * bytes ≤ 140737488355328) (hlo : lo ≤ w.heap.size) :
    Run P f ⟨dst, .call ⟨.builtin .append, #[x, y], #[t, t]⟩, ty, pos, aft, g⟩ w fun v w' => Oz L D w' lo e v (es ++ [(i0, q)]) ∧ w.grownBy w' v1.ownBlock := by
  obtain ⟨A, B, rfl, rfl⟩ := hq.open'
  have ho' := ho
  obtain ⟨xs, h1, h2⟩ := ho
  obtain ⟨v, w', hr, h4, h5⟩ := h_append (P := P) (f := f) (dst := dst) (ty := ty) (pos := pos) (aft := aft) (g := g) hu ht hz (by decide) hx hy h1 hs (one_ent (i0, s, A, B)) (by rw [h2.1]; exact h63) (by rw [h2.1]; exact hby) hlo
  have hsm : Sm D w w' := ho'.gsm h5 hD
  refine ⟨v, w', hr, ⟨xs ++ [(i0, s, A, B)], ?_, (h2.imp fun _ _ h => h.tr hsm).snoc ⟨rfl, hq.tr hsm⟩⟩, h5⟩
  rw [List.length_append, List.length_singleton, List.map_append, List.flatten_append]
  simpa using h4
end
abbrev LC : Type := Int × Bool × Value × Value
abbrev litC : LC → List Value := fun c => [.int .i64 c.1, .bool c.2.1, c.2.2.1, c.2.2.2]
section
variable {L : Nat} {D D' : Nat → TypeId → Prop} {w : World} {b : Nat} {T : TypeId}
theorem lit_open {R : RC → Rat → Prop} (hR : ∀ c q, R c q → ∃ A B : SV, c.2.1 = sv A ∧ c.2.2 = sv B) : ∀ (l : List (LC × Rat)), (∀ p ∈ l, R p.1.2 p.2) → ∃ xs : List EC, (xs.map entC).flatten = ((l.map Prod.fst).map litC).flatten ∧ Fe (fun x e => x.1 = e.1 ∧ R (rcOf x) e.2) xs (l.map fun p => (p.1.1, p.2)) := by
  intro l
  induction l with
  | nil => intro _; exact ⟨[], rfl, Fe.nil⟩
  | cons p l ih =>
    intro h
    obtain ⟨xs, h1, h2⟩ := ih (fun q hq => h q (List.mem_cons_of_mem _ hq))
    obtain ⟨A, B, e1, e2⟩ := hR _ _ (h p (List.mem_cons_self ..))
    refine ⟨(p.1.1, p.1.2.1, A, B) :: xs, ?_, by simp [h2.1], fun k hk => ?_⟩
    · simp only [List.map_cons, List.flatten_cons, h1]
      rw [show entC (p.1.1, p.1.2.1, A, B) = litC p.1 by simp only [entC, litC]; rw [e1, e2]]
    · cases k with
      | zero =>
        refine ⟨rfl, ?_⟩
        have := h p (List.mem_cons_self ..)
        have e3 : p.1.2 = (p.1.2.1, sv A, sv B) := Prod.ext rfl (Prod.ext e1 e2)
        rw [e3] at this
        exact this
      | succ k =>
        have := h2.2 k (by simpa using hk)
        simpa [List.getD_eq_getElem?_getD] using this
theorem Es.lit (l : List (LC × Rat)) (hb : Bk w b T ((l.map Prod.fst).map litC).flatten) (hd : D b T) (hm : l.length ≤ 9223372036854775807) (h : ∀ p ∈ l, Rz L D w p.1.2 p.2) : Es L D w (.slice (some ⟨b, 0, none⟩) l.length l.length) (l.map fun p => (p.1.1, p.2)) := by
  obtain ⟨xs, h1, h2⟩ := lit_open (R := Rz L D w) (fun c q h => h.open') l h
  have hl : xs.length = l.length := by rw [h2.1]; simp
  rw [← h1] at hb
  have ha : Ae [] w b T xs l.length := ⟨by rw [List.append_nil]; exact hb, hl⟩
  exact ⟨xs, ha.ss hd (Nat.le_refl _) hm, h2⟩
theorem Ec.lit (l : List (LC × Rat)) (hb : Bk w b T ((l.map Prod.fst).map litC).flatten) (hd : D b T) (hm : l.length ≤ 9223372036854775807) (h : ∀ p ∈ l, Rk L D w p.1.2 p.2) : Ec L D w (.slice (some ⟨b, 0, none⟩) l.length l.length) (l.map fun p => (p.1.1, p.2)) := by
  obtain ⟨xs, h1, h2⟩ := lit_open (R := Rk L D w) (fun c q h => h.open') l h
  have hl : xs.length = l.length := by rw [h2.1]; simp
  rw [← h1] at hb
  have ha : Ae [] w b T xs l.length := ⟨by rw [List.append_nil]; exact hb, hl⟩
  exact ⟨xs, ha.ss hd (Nat.le_refl _) hm, h2⟩
end
end Go.Vg
namespace Go.Proofs.YtffgajgibddfmaaGreat
open Go.Vg Go.RowKit _root_.Go.Proofs.Tryz
set_option linter.unusedVariables false
open Go.Vm
def shE (e : Ent') : Ent' := (modF e.1 9 - 1, e.2)
def shL (es : List Ent') : List Ent' := (es.take 40).map shE
theorem shL_len (es : List Ent') : (shL es).length ≤ 40 := by unfold shL; rw [List.length_map, List.length_take]; omega
set_option maxHeartbeats 1000000 in
theorem h_first {w : World} {L : Nat} {Des : Nat → TypeId → Prop} {ves : Value} {es : List Ent'} (hes0 : Es L Des w ves es) {n : Nat} (hn : n ≤ 1048576) :
    Calls Tryz.prog 34 #[ves, (.int .i64 ((n : Int)))] w fun e w' => ∃ v, e = .returned v ∧ Es L Des w' v (es.take n) ∧ Ext w w' := by
 have hE : Below w.heap.size w w := Below.refl _ _
 have hes := hes0.old
 clear hes0
 refine calls_of (n := 13) (rs := [.tmp 4]) func34 rfl rfl rfl (Nat.le_of_ble_eq_true rfl) ?_
 refine wset fun F0 hF0 => ?_
 refine wsr ?_
 refine aS (v := (.slice none (0) (0))) rfl ?_
 refine RL.nil ?_
 refine wseq ?_
 refine wsr ?_
 refine mV (v := ves) (hF0 0) ?_
 obtain ⟨A1, c2, hv3, hc4, hc5⟩ := hes.len
 refine rv (r_len underlying22 hv3) ?_
 refine mV (v := (.int .i64 ((n : Int)))) (hF0 1) ?_
 refine rv (r_gtr (k := .i64) (a := ((es.length : Nat) : Int)) (b := (n : Int)) rfl rfl) ?_
 refine RL.nil ?_
 refine wcond (b := decide ((n : Int) < ((es.length : Nat) : Int))) rfl (fun hb6 => ?_) (fun hb6 => ?_)
 ·have hb6p := of_decide_eq_true hb6
  refine wsr ?_
  refine mV (v := ves) (hF0 0) ?_
  refine mV (v := (.int .i64 ((n : Int)))) (hF0 1) ?_
  have r7 := hes.take (n) (by omega) hv3
  refine rv (r_sh (h := (n : Int)) (kk := n) underlying22 ty58 hv3 rfl (by omega) (by omega)) ?_
  refine aS (v := (.slice A1 (n) (c2))) rfl ?_
  refine RL.nil ?_
  refine wret ?_
  refine ⟨[(.slice A1 (n) (c2))], ⟨rfl, trivial⟩, ?_⟩
  exact ⟨r7.mono (fun _ _ h => h.1), hE⟩
 ·have hb6p := of_decide_eq_false hb6
  refine wskip ?_
  refine wsr ?_
  refine mV (v := ves) (hF0 0) ?_
  refine aS (v := ves) rfl ?_
  refine RL.nil ?_
  refine wret ?_
  refine ⟨[ves], ⟨rfl, trivial⟩, ?_⟩
  rw [List.take_of_length_le (by omega)]
  exact ⟨hes.mono (fun _ _ h => h.1), hE⟩
set_option maxHeartbeats 1000000 in
theorem l_short {w : World} {L : Nat} {Des : Nat → TypeId → Prop} {ves : Value} {es : List Ent'} (hes0 : Es L Des w ves es) :
    Calls Tryz.prog 8 #[ves] w fun e w' => ∃ v, e = .returned v ∧ Es L (fun b T => (Des b T ∧ b < w.heap.size) ∨ w.heap.size ≤ b) w' v (shL es) ∧ Ext w w' := by
 have hE : Below w.heap.size w w := Below.refl _ _
 have hes := hes0.old
 clear hes0
 have hlo : w.heap.size ≤ w.heap.size := Nat.le_refl _
 have hfl : (es.take 40).length ≤ 40 := by rw [List.length_take]; omega
 refine calls_of (n := 25) (rs := [.tmp 2]) func8 rfl rfl rfl (Nat.le_of_ble_eq_true rfl) ?_
 refine wset fun F0 hF0 => ?_
 refine wsr ?_
 refine aS (v := (.slice none (0) (0))) rfl ?_
 refine RL.nil ?_
 refine wsr ?_
 refine aS (v := (.slice none (0) (0))) rfl ?_
 refine RL.nil ?_
 refine wseq ?_
 refine wsr ?_
 refine mV (v := ves) (hF0 0) ?_
 refine RL.call rfl rfl (by decide) (r_call (vl := [ves, (.int .i64 (40))]) ent34 rfl) (h_first (n := 40) hes (by decide)) ?_
 rintro vf3 w1 ⟨hr4, he2⟩
 replace hE := hE.nx he2
 obtain ⟨A5, c6, hv7, hc8, hc9⟩ := hr4.len
 refine rv (r_len underlying22 hv7) ?_
 refine mV (v := (.int .i64 (0))) rfl ?_
 refine RL.nil ?_
 refine wblock ?_
 refine wset fun F10 hF11 => ?_
 refine wloop (σ := Nat × Value) (fun (s : Nat × Value) fl wl => match s with | (k, vr) => Off [3, 5, 9, 10, 11, 12, 13, 14, 15, 16, 17, 18, 19, 20, 21, 22, 23] F10 fl ∧ fl 9 = (.int .i64 ((k : Int))) ∧ fl 3 = vr ∧ (k ≤ (es.take 40).length) ∧ (Oz L (fun b T => Des b T ∧ b < w.heap.size) wl w.heap.size 58 vr (((es.take 40).take k).map shE)) ∧ (Es L (fun b T => Des b T ∧ b < w.heap.size) wl ves es) ∧ (Below w.heap.size w wl) ∧ (Es L (fun b T => Des b T ∧ b < w.heap.size) wl vf3 (es.take 40))) (fun (s : Nat × Value) => match s with | (k, vr) => (es.take 40).length - k) (0, (.slice none 0 0)) ?_ ?_
 ·replace hes := hes.tr (Sm.ext he2)
  exact ⟨Off.refl _ _, (hF11 9).trans (rfl), (hF11 3).trans (rfl), Nat.zero_le _, Oz.nil, hes, hE, hr4⟩
 ·clear hes hE hr4
  rintro ⟨k, vr⟩ f12 w13 ⟨hoff14, hs15, hs16, hk, hR, hes, hE, hr4⟩
  refine wsr ?_
  refine rv (r_lss (k := .i64) (a := (k : Int)) (b := (((es.take 40).length : Nat) : Int)) hs15 ((hoff14 8 rfl).trans (hF11 8))) ?_
  refine RL.nil ?_
  refine wseq ?_
  refine wcond (b := decide ((k : Int) < (((es.take 40).length : Nat) : Int))) rfl (fun hb17 => ?_) (fun hb17 => ?_)
  ·have hb17p := of_decide_eq_true hb17
   refine wskip ?_
   refine wseq ?_
   refine wblock ?_
   refine wsr ?_
   obtain ⟨b18, o19, c20, s25, A23, B24, x26, d27, hv21, hc22, hx28, lm29, ln30, hd31, lm32, ln33, eq34⟩ := hr4.ix (i := (k : Int)) (k) (by omega) (by omega)
   refine rv (r_indexAddr (i := (k : Int)) underlying22 ty58 ((((hoff14 7 rfl).trans (hF11 7))).trans hv21) hs15 (by omega) (by omega)) ?_
   refine rv (r_loada (cs := [(.int .i64 (((es.take 40).getD (k) default).1)), (.bool (s25)), (sv A23), (sv B24)]) underlying58 ag58 ty58 rfl hc22) ?_
   refine RL.run rfl rfl (by decide) (h_alloc (cs := [(.int .i64 0), (.bool false), (.slice none 0 0), (.slice none 0 0)]) ty58 rfl) ?_
   rintro _ w35 ⟨b36, rfl, hs39, hb38, he37⟩
   have ge_b36 := hE.ge hs39
   have on_vr_b36 : vr.ownBlock ≠ some b36 := fun h => absurd (hR.lt _ h) (by rw [hs39]; exact Nat.lt_irrefl _)
   replace hE := hE.nx he37
   refine RL.runs rfl rfl (h_store (vv := (.agg #[(.int .i64 (((es.take 40).getD (k) default).1)), (.bool (s25)), (sv A23), (sv B24)])) (cs := [(.int .i64 (((es.take 40).getD (k) default).1)), (.bool (s25)), (sv A23), (sv B24)]) (o := 0) ty58 rfl rfl rfl rfl (one_cons rfl (one_cons rfl (one_cons hx28.one (one_cons hd31.one one_nil)))) hb38 (Nat.le_of_ble_eq_true rfl)) ?_
   rintro w40 ⟨hn41, hx42, hz43⟩
   replace hE := hE.nb hx42 ge_b36
   have nb_hx42 := (Nb.of hb38 (nu_cons rfl (nu_cons rfl (nu_cons rfl (nu_cons rfl nu_nil)))))
   replace hb38 : Bk w40 b36 58 [(.int .i64 (((es.take 40).getD (k) default).1)), (.bool (s25)), (sv A23), (sv B24)] := hn41
   refine RL.nil ?_
   have hskl : (((es.take 40).take k).map shE).length = k := by rw [List.length_map, List.length_take]; omega
   refine wdraw mixed fun w44 he45 => ?_
   replace hE := hE.nx he45
   refine ra 0 rfl (fun _ => r_move_as (v := vr) hs16) ?_
   refine ra 1 rfl (fun _ => r_fieldAddr underlying58 rfl ty3 rfl) ?_
   replace hb38 := hb38.ext he45
   have hc46 := hb38.cell (j := 0) (u := (.int .i64 (((es.take 40).getD (k) default).1))) rfl
   refine RA.rd 2 rfl (by kernel_rfl) rfl rfl rfl (by decide) (Ext.refl _) (fun u hu => r_load underlying3 ag3 rfl (cell_ext hu hc46)) ?_
   refine ra 5 rfl (fun _ => r_fieldAddr underlying58 rfl ty44 rfl) ?_
   have hc47 := hb38.cells (o := 1) (cs := [(.bool (s25)), (sv A23), (sv B24)]) rfl
   refine RA.rd 6 rfl (by kernel_rfl) rfl rfl rfl (by decide) (Ext.refl _) (fun u hu => r_loada (o := 1) (cs := [(.bool (s25)), (sv A23), (sv B24)]) underlying44 ag44 ty44 rfl (fun j v hj => cell_ext hu (hc47 j v hj))) ?_
   refine RA.all [3] (by kernel_rfl) rfl ?_
   refine RS.call rfl rfl rfl (by decide) (r_call (vl := [(.int .i64 (((es.take 40).getD (k) default).1)), (.int .i64 (9))]) ent35 rfl) (mod_spec _ (by omega) (by omega)) ?_ RS.nil
   rintro _ _ ⟨rfl, rfl⟩
   refine rm (Ext.refl _) ?_
   have hmr := modF_range ((es.take 40).getD (k) default).1 9 (by decide)
   refine ra 4 rfl (fun _ => r_sub (k := .i64) (a := modF (((es.take 40).getD (k) default).1) 9) (b := 1) (c := (modF (((es.take 40).getD (k) default).1) 9) - 1) rfl rfl (wi64 (by omega))) ?_
   refine ra 7 rfl (fun _ => r_build (vl := [(0, (.int .i64 ((modF (((es.take 40).getD (k) default).1) 9) - 1))), (1, (.agg #[(.bool (s25)), (sv A23), (sv B24)]))]) (cs := [(.int .i64 ((modF (((es.take 40).getD (k) default).1) 9) - 1)), (.bool (s25)), (sv A23), (sv B24)]) underlying58 ty58 rfl (pl58 underlying58) rfl) ?_
   refine RA.all [8] (by kernel_rfl) rfl ?_
   refine RS.run rfl rfl rfl (by decide) (h_lit (vl := [(0, (.agg #[(.int .i64 ((modF (((es.take 40).getD (k) default).1) 9) - 1)), (.bool (s25)), (sv A23), (sv B24)]))]) (cs := [(.int .i64 ((modF (((es.take 40).getD (k) default).1) 9) - 1)), (.bool (s25)), (sv A23), (sv B24)]) underlying22 ty58 rfl (by decide) (by first | (simp [Instr.fill, Value.cells]; done) | rfl | kernel_rfl)) ?_ RS.nil
   rintro _ w49 ⟨b50, rfl, hs53, hb52, he51⟩
   refine rm he51 ?_
   have lt_b36_b50 := Nat.lt_of_lt_of_eq hb38.lt hs53.symm
   have ge_b50 := hE.ge hs53
   replace hR := ((hR.ext he37).exo hx42 on_vr_b36 nb_hx42).ext he45
   have on_vr_b50 : vr.ownBlock ≠ some b50 := fun h => absurd (hR.lt _ h) (by rw [hs53]; exact Nat.lt_irrefl _)
   replace hE := hE.nx he51
   refine RA.all [9] (by kernel_rfl) rfl ?_
   replace hR := hR.ext he51
   replace hx28 := ((hx28.tr (Sm.ext he37)).apn hx42 nb_hx42).tr (Sm.ext (Ext.trans he45 he51))
   replace hd31 := ((hd31.tr (Sm.ext he37)).apn hx42 nb_hx42).tr (Sm.ext (Ext.trans he45 he51))
   refine RS.run rfl rfl rfl (by decide) (h_appendZ (v1 := vr) (v2 := (.slice (some ⟨b50, 0, none⟩) (1) (1))) (q := ((es.take 40).getD (k) default).2) underlying22 ty58 rfl rfl rfl hR (hb52.sc (D := fun _ _ => True) trivial rfl (by decide)) (Rz.of (L := L) hx28 lm29 (by omega) hd31 lm32 (by omega) (show ratOf s25 (val x26) (val d27) = ((es.take 40).getD (k) default).2 from eq34)) (fun b hb hd => absurd hd.2 (Nat.not_lt_of_le hb)) (by simp only [maxLen]; omega) (by omega) hE.size) ?_ RS.nil
   rintro v55 w54 ⟨ho56, hg57⟩
   refine ⟨.inr (.inl (by kernel_rfl)), ?_⟩
   replace hE := hR.gbe hg57 hE hlo hE.size
   refine ra 10 rfl (fun _ => r_assign_as (v := v55) rfl) ?_
   refine RA.done (by kernel_rfl) ?_
   refine wregion ?_
   refine rv (r_add (k := .i64) (a := (k : Int)) (b := 1) (c := (k : Int) + 1) hs15 rfl (wi64 (by omega))) ?_
   refine mV (v := (.int .i64 ((k : Int) + 1))) rfl ?_
   refine RL.nil ?_
   replace hes := (((hes.tr (Sm.ext he37)).tr (Sm.exc hx42 (fun _ _ _ _ hd => absurd hd.2 (Nat.not_lt_of_le ge_b36)))).tr (Sm.ext (Ext.trans he45 he51))).tr (hR.gsm hg57 (fun b hb hd => absurd hd.2 (Nat.not_lt_of_le (Nat.le_trans hlo hb))))
   replace hr4 := (((hr4.tr (Sm.ext he37)).tr (Sm.exc hx42 (fun _ _ _ _ hd => absurd hd.2 (Nat.not_lt_of_le ge_b36)))).tr (Sm.ext (Ext.trans he45 he51))).tr (hR.gsm hg57 (fun b hb hd => absurd hd.2 (Nat.not_lt_of_le (Nat.le_trans hlo hb))))
   refine ⟨(k + 1, v55), ⟨?_, ?_, ?_, ?_, ?_, ?_, ?_, ?_⟩, ?_⟩
   · exact (by repeat (first | exact hoff14 | refine Off.st ?_ (by decide) _))
   · first | rfl | exact int_eq (by omega) | exact bool_eq (by simp)
   · first | rfl | exact int_eq (by omega) | exact bool_eq (by simp)
   · omega
   · rw [take_snoc (es.take 40) k (by omega), List.map_append]; exact ho56
   · exact hes
   · exact hE
   · exact hr4
   · (try dsimp only)
     omega
  ·have hb17p := of_decide_eq_false hb17
   refine wexit ?_
   refine wseq ?_
   have hke : (es.take 40).take k = es.take 40 := List.take_of_length_le (by omega)
   refine wregion ?_
   refine mV (v := vr) hs16 ?_
   refine aS (v := vr) rfl ?_
   refine RL.nil ?_
   refine wret ?_
   refine ⟨[vr], ⟨rfl, trivial⟩, ?_⟩
   have hR2 := hR
   rw [hke] at hR2
   exact ⟨hR2.rd (fun _ h => .inr h) (fun _ _ h => .inl h), hE⟩
end Go.Proofs.YtffgajgibddfmaaGreat
namespace Go.Proofs.YtffgajgibddfmaaGreat
open Go.Vg Go.RowKit _root_.Go.Proofs.Tryz
set_option linter.unusedVariables false
open Go.Vm
def IsP (p : List Int) : Prop := (∀ x ∈ p, 0 ≤ x ∧ x < (p.length : Int)) ∧ p.Nodup
theorem isp_no {p : List Int} {k : Nat} (hk : k < p.length) (h : ¬ (0 ≤ p.getD k default ∧ p.getD k default < (p.length : Int))) : ¬ IsP p := fun hp => h (hp.1 _ (getD_mem _ _ hk))
theorem isp_dup {p : List Int} {k : Nat} (hk : k < p.length) (h : p.getD k default ∈ p.take k) : ¬ IsP p := fun hp => by
  have h1 : (p.take (k + 1)).Nodup := List.Nodup.sublist (List.take_sublist _ _) hp.2
  rw [take_snoc p k hk, List.nodup_append] at h1
  exact h1.2.2 _ h _ (by simp) rfl
theorem seen_next {p : List Int} {sn : List Bool} {k n : Nat} (hk : k < p.length) (h0 : 0 ≤ p.getD k default) (h1 : p.getD k default < (n : Int)) (hn : sn.length = n) (hs : ∀ i, i < n → sn.getD i default = decide ((i : Int) ∈ p.take k)) : ∀ i, i < n → (sn.set (p.getD k default).toNat true).getD i default = decide ((i : Int) ∈ p.take (k + 1)) := fun i hi => by
  rw [take_snoc p k hk]
  by_cases h : (p.getD k default).toNat = i
  · have : (i : Int) = p.getD k default := by omega
    rw [decide_eq_true (by rw [this]; simp), h]
    simp [List.getD_eq_getElem?_getD, List.getElem?_set, hn, hi]
  · have h2 : (i : Int) ≠ p.getD k default := by omega
    have e1 : (sn.set (p.getD k default).toNat true).getD i default = sn.getD i default := by
      generalize (p.getD k default).toNat = m at h
      simp [List.getD_eq_getElem?_getD, List.getElem?_set, h]
    rw [e1, hs i hi]
    simp only [List.mem_append, List.mem_singleton, h2, or_false]
set_option maxHeartbeats 1000000 in
theorem v_isp {w : World} {Dp : Nat → TypeId → Prop} {vp : Value} {p : List Int} (hp0 : Sg (gI .i64) Dp w vp p) (lnp : p.length ≤ 1048576) :
    Calls Tryz.prog 36 #[vp] w fun e w' => ∃ v, e = .returned v ∧ (∃ r : Bool, v = .bool r ∧ (r = true ↔ IsP p)) ∧ Ext w w' := by
 have hE : Below w.heap.size w w := Below.refl _ _
 have hp := hp0.old
 clear hp0
 refine calls_of (n := 33) (rs := [.tmp 2]) func36 rfl rfl rfl (Nat.le_of_ble_eq_true rfl) ?_
 refine wset fun F0 hF0 => ?_
 refine wsr ?_
 refine aS (v := (.bool (false))) rfl ?_
 refine RL.nil ?_
 refine wsr ?_
 refine mV (v := vp) (hF0 0) ?_
 obtain ⟨A1, c2, hv3, hc4, hc5⟩ := hp.len
 refine rv (r_len underlying23 hv3) ?_
 have hn11 : (((p.length : Nat) : Int) : Int) = ((p.length : Nat) : Int) := by omega
 refine RL.run rfl rfl (by decide) (h_make1 (n := p.length) underlying83 ty4 rfl (int_eq hn11) (int_eq hn11) (by omega) (by omega)) ?_
 rintro _ w6 ⟨b7, rfl, hs10, hb9, he8⟩
 have ge_b7 := hE.ge hs10
 replace hE := hE.nx he8
 replace hb9 := Af.made (g := gB) (z := false) hb9 rfl
 refine aS (v := (.slice (some ⟨b7, 0, none⟩) (p.length) (p.length))) rfl ?_
 refine RL.nil ?_
 refine wseq ?_
 refine wsr ?_
 refine mV (v := vp) (hF0 0) ?_
 refine rv (r_len underlying23 hv3) ?_
 refine mV (v := (.int .i64 (0))) rfl ?_
 refine RL.nil ?_
 refine wblock ?_
 refine wset fun F12 hF13 => ?_
 refine wloop (σ := Nat × List Bool) (fun (s : Nat × List Bool) fl wl => match s with | (k, sn) => Off [2, 5, 11, 12, 13, 14, 15, 16, 17, 18, 19, 20, 21, 22, 23, 24, 25, 26, 27, 28, 29, 30, 31, 32] F12 fl ∧ fl 11 = (.int .i64 ((k : Int))) ∧ (k ≤ p.length) ∧ (∀ x ∈ p.take k, 0 ≤ x ∧ x < (p.length : Int)) ∧ ((p.take k).Nodup) ∧ (∀ i, i < p.length → sn.getD i default = decide ((i : Int) ∈ p.take k)) ∧ (sn.length = p.length) ∧ (Af (gB) wl b7 4 sn p.length) ∧ (Sg (gI .i64) (fun b T => Dp b T ∧ b < w.heap.size) wl vp p) ∧ (Below w.heap.size w wl)) (fun (s : Nat × List Bool) => match s with | (k, sn) => p.length - k) (0, List.replicate p.length false) ?_ ?_
 ·replace hp := hp.tr (Sm.ext he8)
  exact ⟨Off.refl _ _, (hF13 11).trans (rfl), Nat.zero_le _, (fun x hx => by simp at hx), by simp, (fun i hi => by simp [List.getD_eq_getElem?_getD, hi]), by simp, hb9, hp, hE⟩
 ·clear hp hE hb9
  rintro ⟨k, sn⟩ f14 w15 ⟨hoff16, hs17, hk, hr, hnd, hs, hsl, hb9, hp, hE⟩
  refine wsr ?_
  refine rv (r_lss (k := .i64) (a := (k : Int)) (b := ((p.length : Nat) : Int)) hs17 ((hoff16 10 rfl).trans (hF13 10))) ?_
  refine RL.nil ?_
  refine wseq ?_
  refine wcond (b := decide ((k : Int) < ((p.length : Nat) : Int))) rfl (fun hb18 => ?_) (fun hb18 => ?_)
  ·have hb18p := of_decide_eq_true hb18
   refine wskip ?_
   refine wseq ?_
   refine wblock ?_
   refine wseq ?_
   have hkl : k < p.length := by omega
   refine wregion ?_
   obtain ⟨b19, o20, c21, hv22, hc23⟩ := hp.ix (i := (k : Int)) (k) (by omega) (by omega)
   refine rv (r_indexAddr (i := (k : Int)) underlying23 ty3 ((((hoff16 9 rfl).trans (hF13 9))).trans hv22) hs17 (by omega) (by omega)) ?_
   refine rv (r_load (v := (.int .i64 (p.getD (k) default))) underlying3 ag3 rfl hc23) ?_
   refine aS (v := (.int .i64 (p.getD (k) default))) rfl ?_
   refine RL.nil ?_
   refine wseq ?_
   refine wsr ?_
   refine mV (v := (.int .i64 (p.getD (k) default))) rfl ?_
   refine rv (r_lss (k := .i64) (a := p.getD (k) default) (b := 0) rfl rfl) ?_
   refine mV (v := (.bool (decide ((p.getD (k) default) < 0)))) rfl ?_
   rcases Bool.eq_false_or_eq_true (decide ((p.getD (k) default) < 0)) with hb24 | hb24
   ·have hb24p := of_decide_eq_true hb24
    have hbad := hb24p
    refine RL.gno rfl rfl (bool_eq hb24) rfl (by decide) ?_
    refine RL.gno rfl rfl (bool_eq hb24) rfl (by decide) ?_
    refine RL.gno rfl rfl (bool_eq hb24) rfl (by decide) ?_
    refine RL.gno rfl rfl (bool_eq hb24) rfl (by decide) ?_
    refine rv (r_pick_t (v := (.bool (true))) (bool_eq hb24) rfl) ?_
    refine mV (v := (.bool (true))) rfl ?_
    refine RL.gno rfl rfl rfl rfl (by decide) ?_
    refine RL.gno rfl rfl rfl rfl (by decide) ?_
    refine RL.gno rfl rfl rfl rfl (by decide) ?_
    refine RL.gno rfl rfl rfl rfl (by decide) ?_
    refine rv (r_pick_t (v := (.bool (true))) rfl rfl) ?_
    refine RL.nil ?_
    refine wcond_t rfl ?_
    refine wsr ?_
    refine aS (v := (.bool (false))) rfl ?_
    refine RL.nil ?_
    refine wret ?_
    refine ⟨[(.bool (false))], ⟨rfl, trivial⟩, ?_⟩
    exact ⟨⟨_, rfl, (fun h => by cases h), fun h => absurd h (by first | exact isp_dup hkl hin | exact isp_no hkl (by omega))⟩, hE⟩
   ·have hb24p := of_decide_eq_false hb24
    have hlow := hb24p
    refine RL.gval rfl rfl (bool_eq hb24) rfl (by decide) (r_move_as (v := (.int .i64 (p.getD (k) default))) rfl) ?_
    refine RL.gval rfl rfl (bool_eq hb24) rfl (by decide) (r_move_as (v := vp) ((hoff16 0 rfl).trans ((hF13 0).trans (hF0 0)))) ?_
    refine RL.gval rfl rfl (bool_eq hb24) rfl (by decide) (r_len underlying23 hv3) ?_
    refine RL.gval rfl rfl (bool_eq hb24) rfl (by decide) (r_geq (k := .i64) (a := p.getD (k) default) (b := ((p.length : Nat) : Int)) rfl rfl) ?_
    refine rv (r_pick_f (v := (.bool (decide (((p.length : Nat) : Int) ≤ (p.getD (k) default))))) (bool_eq hb24) rfl) ?_
    refine mV (v := (.bool (decide (((p.length : Nat) : Int) ≤ (p.getD (k) default))))) rfl ?_
    rcases Bool.eq_false_or_eq_true (decide (((p.length : Nat) : Int) ≤ (p.getD (k) default))) with hb25 | hb25
    ·have hb25p := of_decide_eq_true hb25
     have hbad := hb25p
     refine RL.gno rfl rfl (bool_eq hb25) rfl (by decide) ?_
     refine RL.gno rfl rfl (bool_eq hb25) rfl (by decide) ?_
     refine RL.gno rfl rfl (bool_eq hb25) rfl (by decide) ?_
     refine RL.gno rfl rfl (bool_eq hb25) rfl (by decide) ?_
     refine rv (r_pick_t (v := (.bool (true))) (bool_eq hb25) rfl) ?_
     refine RL.nil ?_
     refine wcond_t rfl ?_
     refine wsr ?_
     refine aS (v := (.bool (false))) rfl ?_
     refine RL.nil ?_
     refine wret ?_
     refine ⟨[(.bool (false))], ⟨rfl, trivial⟩, ?_⟩
     exact ⟨⟨_, rfl, (fun h => by cases h), fun h => absurd h (by first | exact isp_dup hkl hin | exact isp_no hkl (by omega))⟩, hE⟩
    ·have hb25p := of_decide_eq_false hb25
     have hhigh := hb25p
     refine RL.gval rfl rfl (bool_eq hb25) rfl (by decide) (r_move_as (v := (.slice (some ⟨b7, 0, none⟩) (p.length) (p.length))) ((hoff16 3 rfl).trans (hF13 3))) ?_
     refine RL.gval rfl rfl (bool_eq hb25) rfl (by decide) (r_move_as (v := (.int .i64 (p.getD (k) default))) rfl) ?_
     refine RL.gval rfl rfl (bool_eq hb25) rfl (by decide) (r_indexAddr (i := p.getD (k) default) underlying83 ty4 rfl rfl (by omega) (by omega)) ?_
     have hc26 := hb9.cell (i := p.getD (k) default) ((p.getD (k) default).toNat) (by omega) (by omega)
     refine RL.gval rfl rfl (bool_eq hb25) rfl (by decide) (r_load (v := (.bool (sn.getD ((p.getD (k) default).toNat) default))) underlying4 ag4 rfl hc26) ?_
     refine rv (r_pick_f (v := (.bool (sn.getD ((p.getD (k) default).toNat) default))) (bool_eq hb25) rfl) ?_
     refine RL.nil ?_
     refine wcond (b := sn.getD ((p.getD (k) default).toNat) default) rfl (fun hb27 => ?_) (fun hb27 => ?_)
     ·have hb27p := hb27
      have hsk := hb27p
      rw [hs _ (by omega)] at hsk
      have hin := of_decide_eq_true hsk
      rw [show (((p.getD (k) default).toNat : Nat) : Int) = p.getD k default by omega] at hin
      refine wsr ?_
      refine aS (v := (.bool (false))) rfl ?_
      refine RL.nil ?_
      refine wret ?_
      refine ⟨[(.bool (false))], ⟨rfl, trivial⟩, ?_⟩
      exact ⟨⟨_, rfl, (fun h => by cases h), fun h => absurd h (by first | exact isp_dup hkl hin | exact isp_no hkl (by omega))⟩, hE⟩
     ·have hb27p := hb27
      have hsk := hb27p
      rw [hs _ (by omega)] at hsk
      have hni := of_decide_eq_false hsk
      rw [show (((p.getD (k) default).toNat : Nat) : Int) = p.getD k default by omega] at hni
      refine wskip ?_
      refine wregion ?_
      refine mV (v := (.slice (some ⟨b7, 0, none⟩) (p.length) (p.length))) ((hoff16 3 rfl).trans (hF13 3)) ?_
      refine mV (v := (.int .i64 (p.getD (k) default))) rfl ?_
      refine rv (r_indexAddr (i := p.getD (k) default) underlying83 ty4 rfl rfl (by omega) (by omega)) ?_
      refine RL.runs rfl rfl (h_setF (g := gB) (vv := (.bool (true))) (u := true) (i := p.getD (k) default) ty4 rfl rfl rfl rfl rfl hb9 ((p.getD (k) default).toNat) (by omega) (by omega)) ?_
      rintro w28 ⟨ha29, hx30⟩
      replace hE := hE.nb hx30 ge_b7
      have nb_hx30 := (hb9.nb (fun _ => rfl))
      replace hb9 := ha29
      refine RL.nil ?_
      refine wregion ?_
      refine rv (r_add (k := .i64) (a := (k : Int)) (b := 1) (c := (k : Int) + 1) hs17 rfl (wi64 (by omega))) ?_
      refine mV (v := (.int .i64 ((k : Int) + 1))) rfl ?_
      refine RL.nil ?_
      replace hp := hp.tr (Sm.exc hx30 (fun _ _ _ _ hd => absurd hd.2 (Nat.not_lt_of_le ge_b7)))
      refine ⟨(k + 1, sn.set (p.getD (k) default).toNat true), ⟨?_, ?_, ?_, ?_, ?_, ?_, ?_, ?_, ?_, ?_⟩, ?_⟩
      · exact (by repeat (first | exact hoff16 | refine Off.st ?_ (by decide) _))
      · first | rfl | exact int_eq (by omega) | exact bool_eq (by simp)
      · omega
      · rw [take_snoc p k hkl]; intro x hx; rcases List.mem_append.1 hx with h | h; exact hr x h; rw [List.mem_singleton.1 h]; exact ⟨by omega, by omega⟩
      · rw [take_snoc p k hkl, List.nodup_append]; exact ⟨hnd, by simp, fun a ha b hb => by rw [List.mem_singleton.1 hb]; exact fun he => hni (he ▸ ha)⟩
      · exact seen_next hkl (by omega) (by omega) hsl hs
      · rw [List.length_set]; exact hsl
      · exact hb9
      · exact hp
      · exact hE
      · (try dsimp only)
        omega
  ·have hb18p := of_decide_eq_false hb18
   refine wexit ?_
   refine wsr ?_
   refine aS (v := (.bool (true))) rfl ?_
   refine RL.nil ?_
   refine wret ?_
   refine ⟨[(.bool (true))], ⟨rfl, trivial⟩, ?_⟩
   rw [List.take_of_length_le (by omega)] at hr hnd
   exact ⟨⟨_, rfl, (fun _ => ⟨hr, hnd⟩), fun _ => rfl⟩, hE⟩
end Go.Proofs.YtffgajgibddfmaaGreat
namespace Go.Proofs.YtffgajgibddfmaaGreat
open Go.Vg Go.RowKit Go.Shelf _root_.Go.Proofs.Tryz
def rhoL : Ren := ⟨fun n => if n = 125 then 63 else if n = 128 then 98 else if n = 129 then 99 else 0, fun n => if n = 3 then 3 else if n = 4 then 4 else if n = 5 then 5 else if n = 9 then 9 else if n = 46 then 86 else if n = 51 then 96 else if n = 53 then 82 else 0, fun x => x⟩
theorem lays125 : Lays.n125 Tryz.prog rhoL := by
  constructor <;> first | kernel_rfl | (intro w; kernel_rfl)
theorem len_spec {x : Int} (w : World) (h0 : 0 ≤ x) (h1 : x ≤ 18446744073709551615) : Calls Tryz.prog 63 #[.int .u64 x] w fun e w' => ∃ v, e = .returned v ∧ (∃ s : Nat, v = .int .i64 (s : Int)) ∧ w = w' := by
  refine (Any.bits_Len lays125 x w h0 h1).mono ?_
  rintro e w' ⟨rfl, rfl⟩
  exact ⟨_, rfl, ⟨_, rfl⟩, rfl⟩
end Go.Proofs.YtffgajgibddfmaaGreat
namespace Go.Proofs.YtffgajgibddfmaaGreat
open Go.Vg Go.RowKit _root_.Go.Proofs.Tryz
set_option linter.unusedVariables false
open Go.Vm
set_option maxHeartbeats 1000000 in
theorem pdq_ent {post : List Value} {b n cap : Nat} {xs : List EC} {w : World} {kc : Nat} {cl : List Value} {key : EC → Int} {ok : EC → Prop} {w0 : World} (hent : Ent Tryz.prog kc) (hcmp : CmpOk Tryz.prog kc cl encE key ok b w0) (hw0 : Exc b w0 w) {lim : Int} (ha : Ae post w b 58 xs n) (hsz : n ≤ 4611686018427387903) (hok : ∀ x ∈ xs, ok x) (h12 : n ≤ 12) :
    Calls Tryz.prog 62 #[(.slice (some ⟨b, 0, none⟩) (n) (cap)), (.int .i64 (0)), (.int .i64 ((n : Int))), (.int .i64 (lim)), (.func (.func kc) #[] cl.toArray)] w fun e w' => ∃ v, e = .returned v ∧ v = .tuple #[] ∧ (∃ l, Ae post w' b 58 l n ∧ Srt key l ∧ StE key xs l) ∧ Exc b w w' := by
 have hE : Exc b w w := Exc.of_ext (Ext.refl _)
 refine calls_of (n := 148) (rs := []) func62 rfl rfl rfl (Nat.le_of_ble_eq_true rfl) ?_
 refine wset fun F0 hF0 => ?_
 refine wsr ?_
 refine aS (v := (.bool (true))) rfl ?_
 refine RL.nil ?_
 refine wsr ?_
 refine aS (v := (.bool (true))) rfl ?_
 refine RL.nil ?_
 refine wblock ?_
 refine wset fun F1 hF2 => ?_
 refine wloop (σ := Nat) (fun (z : Nat) fl wl => Off [1, 2, 3, 10, 11, 12, 13, 14, 15, 16, 17, 18, 19, 20, 21, 22, 23, 24, 25, 26, 27, 28, 29, 30, 31, 32, 33, 34, 35, 36, 37, 38, 39, 40, 41, 42, 43, 44, 45, 46, 47, 48, 49, 50, 51, 52, 53, 54, 55, 56, 57, 58, 59, 60, 61, 62, 63, 64, 65, 66, 67, 68, 69, 70, 71, 72, 73, 74, 75, 76, 77, 78, 79, 80, 81, 82, 83, 84, 85, 86, 87, 88, 89, 90, 91, 92, 93, 94, 95, 96, 97, 98, 99, 100, 101, 102, 103, 104, 105, 106, 107, 108, 109, 110, 111, 112, 113, 114, 115, 116, 117, 118, 119, 120, 121, 122, 123, 124, 125, 126, 127, 128, 129, 130, 131, 132, 133, 134, 135, 136, 137, 138, 139, 140, 141, 142, 143, 144, 145, 146, 147] F1 fl ∧ fl 1 = (.int .i64 (0)) ∧ fl 2 = (.int .i64 ((n : Int))) ∧ fl 10 = (.bool (true)) ∧ fl 11 = (.bool (true)) ∧ (Ae post wl b 58 xs n) ∧ (Exc b w wl)) (fun (z : Nat) => z) (0) ?_ ?_
 ·exact ⟨Off.refl _ _, (hF2 1).trans (((hF0 1)).trans rfl), (hF2 2).trans (((hF0 2)).trans rfl), (hF2 10).trans (rfl), (hF2 11).trans (rfl), ha, hE⟩
 ·clear ha hE
  rintro z f3 w4 ⟨hoff5, hs6, hs7, hs8, hs9, ha, hE⟩
  refine wblock ?_
  refine wsr ?_
  refine mV (v := (.int .i64 ((n : Int)))) hs7 ?_
  refine mV (v := (.int .i64 (0))) hs6 ?_
  refine rv (r_sub (k := .i64) (a := (n : Int)) (b := 0) (c := (n : Int)) rfl rfl ((wi64 (by omega)).trans (by omega))) ?_
  refine aS (v := (.int .i64 ((n : Int)))) rfl ?_
  refine RL.nil ?_
  refine wseq ?_
  refine wsr ?_
  refine mV (v := (.int .i64 ((n : Int)))) rfl ?_
  refine rv (r_leq (k := .i64) (a := (n : Int)) (b := 12) rfl rfl) ?_
  refine RL.nil ?_
  refine wcond (b := decide ((n : Int) ≤ 12)) rfl (fun hb10 => ?_) (fun hb10 => ?_)
  ·have hb10p := of_decide_eq_true hb10
   refine wsr ?_
   refine mV (v := (.slice (some ⟨b, 0, none⟩) (n) (cap))) ((hoff5 0 rfl).trans ((hF2 0).trans (hF0 0))) ?_
   refine mV (v := (.int .i64 (0))) hs6 ?_
   refine mV (v := (.int .i64 ((n : Int)))) hs7 ?_
   refine mV (v := (.func (.func kc) #[] cl.toArray)) ((hoff5 4 rfl).trans ((hF2 4).trans (hF0 4))) ?_
   refine RL.call rfl rfl (by decide) (r_call (vl := [(.slice (some ⟨b, 0, none⟩) (n) (cap)), (.int .i64 (0)), (.int .i64 ((n : Int))), (.func (.func kc) #[] cl.toArray)]) ent90 rfl) (insertion_ent (LA := []) (LS := xs) (LB := []) (a := 0) (c := n) hent hcmp (hw0.trans hE) ha hsz (by simp) rfl (by have := ha.len; omega) hok) ?_
   rintro _ w11 ⟨rfl, ⟨M0, ha12, hs0, ht0⟩, hx13⟩
   replace hE := hE.trans hx13
   replace ha := ha12
   refine RL.nil ?_
   refine wret ?_
   refine ⟨[], trivial, ?_⟩
   exact ⟨rfl, ⟨M0, by simpa using ha, hs0, ht0⟩, hE⟩
  ·have hb10p := of_decide_eq_false hb10
   exact absurd hb10p (by omega)
set_option maxHeartbeats 1000000 in
theorem sort_ent {post : List Value} {b n cap : Nat} {xs : List EC} {w : World} {kc : Nat} {cl : List Value} {key : EC → Int} {ok : EC → Prop} {w0 : World} (hent : Ent Tryz.prog kc) (hcmp : CmpOk Tryz.prog kc cl encE key ok b w0) (hw0 : Exc b w0 w) (ha : Ae post w b 58 xs n) (hsz : n ≤ 4611686018427387903) (hok : ∀ x ∈ xs, ok x) (h12 : n ≤ 12) :
    Calls Tryz.prog 37 #[(.slice (some ⟨b, 0, none⟩) (n) (cap)), (.func (.func kc) #[] cl.toArray)] w fun e w' => ∃ v, e = .returned v ∧ v = .tuple #[] ∧ (∃ l, Ae post w' b 58 l n ∧ Srt key l ∧ StE key xs l) ∧ Exc b w w' := by
 have hE : Exc b w w := Exc.of_ext (Ext.refl _)
 refine calls_of (n := 14) (rs := []) func37 rfl rfl rfl (Nat.le_of_ble_eq_true rfl) ?_
 refine wset fun F0 hF0 => ?_
 refine wsr ?_
 refine mV (v := (.slice (some ⟨b, 0, none⟩) (n) (cap))) (hF0 0) ?_
 refine rv (r_len underlying22 rfl) ?_
 refine aS (v := (.int .i64 ((n : Int)))) rfl ?_
 refine RL.nil ?_
 refine wregion ?_
 refine mV (v := (.slice (some ⟨b, 0, none⟩) (n) (cap))) (hF0 0) ?_
 refine mV (v := (.int .i64 ((n : Int)))) rfl ?_
 refine mV (v := (.int .i64 ((n : Int)))) rfl ?_
 refine rv (r_conv (k := .u64) (a := (n : Int)) (c := (n : Int)) underlying3 underlying86 rfl (wu64 (by omega))) ?_
 refine RL.call rfl rfl (by decide) (r_call (vl := [(.int .u64 ((n : Int)))]) ent63 rfl) (len_spec (x := (n : Int)) _ (by omega) (by omega)) ?_
 rintro _ _ ⟨⟨lm, rfl⟩, rfl⟩
 refine mV (v := (.func (.func kc) #[] cl.toArray)) (hF0 1) ?_
 refine RL.call rfl rfl (by decide) (r_call (vl := [(.slice (some ⟨b, 0, none⟩) (n) (cap)), (.int .i64 (0)), (.int .i64 ((n : Int))), (.int .i64 ((lm : Int))), (.func (.func kc) #[] cl.toArray)]) ent62 rfl) (pdq_ent hent hcmp hw0 ha hsz hok h12) ?_
 rintro _ w2 ⟨rfl, hl, hx⟩
 refine RL.nil ?_
 refine ⟨[], trivial, ?_⟩
 exact ⟨rfl, hl, hx⟩
end Go.Proofs.YtffgajgibddfmaaGreat
namespace Go.Proofs.YtffgajgibddfmaaGreat
open Go.Vg Go.RowKit _root_.Go.Proofs.Tryz
set_option linter.unusedVariables false
open Go.Vm
def pmL (p : List Int) (es : List Ent') : List Ent' := es.map fun e => (p.getD e.1.toNat default, e.2)
theorem get_mem {es : List En} (ha : Asc es) {e : En} (he : e ∈ es) : get es e.1 = e.2 := by
  induction es with
  | nil => cases he
  | cons x es ih =>
    rcases List.mem_cons.1 he with rfl | h
    · exact get_head ha
    · rw [get_cons_ne (by have := ha.head e h; omega)]; exact ih ha.tail h
theorem pm_at {p : List Int} {rs cs : List Ent'} {k : Nat} (hk : k < rs.length) (hcs : cs = pmL p (rs.take k) ++ rs.drop k) : cs.getD k default = rs.getD k default := by
  have hl : (pmL p (rs.take k)).length = k := by unfold pmL; rw [List.length_map, List.length_take]; omega
  rw [hcs, List.getD_eq_getElem?_getD, List.getElem?_append_right (by omega), hl, Nat.sub_self, List.getElem?_drop, Nat.add_zero, ← List.getD_eq_getElem?_getD]
theorem pm_step {p : List Int} {rs cs : List Ent'} {k : Nat} (hk : k < rs.length) (hcs : cs = pmL p (rs.take k) ++ rs.drop k) : cs.set k (p.getD (rs.getD k default).1.toNat default, (rs.getD k default).2) = pmL p (rs.take (k + 1)) ++ rs.drop (k + 1) := by
  have hl : (pmL p (rs.take k)).length = k := by unfold pmL; rw [List.length_map, List.length_take]; omega
  rw [hcs, take_snoc rs k hk, drop_cons rs k hk, List.set_append_right _ _ (by omega), hl, Nat.sub_self]
  unfold pmL
  simp
theorem wk_asc {S : List En} (hw : Wk S) (hn : (S.map Prod.fst).Nodup) : Asc S := by
  have h2 : S.Pairwise fun a b => a.1 ≠ b.1 := List.pairwise_map.1 hn
  exact (hw.and h2).imp fun ⟨h1, h2⟩ => by omega
theorem pm_fin {p : List Int} {rs S : List Ent'} (hp : IsP p) (ha : Asc rs) (hz : NonZ rs) (hin : ∀ e ∈ rs, 0 ≤ e.1 ∧ e.1 < (p.length : Int)) (hpm : (pmL p rs).Perm S) (hw : Wk S) : Asc S ∧ NonZ S := by
  constructor
  · refine wk_asc hw ?_
    refine (hpm.map Prod.fst).nodup_iff.1 ?_
    unfold pmL
    rw [List.map_map]
    refine List.pairwise_map.2 ?_
    refine (List.Pairwise.and_mem.1 ha).imp fun {a b} ⟨h1, h2, h3⟩ he => ?_
    have hp2 := List.pairwise_iff_getElem.1 hp.2
    have a1 := hin a h1
    have b1 := hin b h2
    have := hp2 a.1.toNat b.1.toNat (by omega) (by omega) (by omega)
    apply this
    have he' : p.getD a.1.toNat default = p.getD b.1.toNat default := he
    rw [List.getD_eq_getElem?_getD, List.getD_eq_getElem?_getD, List.getElem?_eq_getElem (by omega), List.getElem?_eq_getElem (by omega)] at he'
    exact he'
  · intro e he
    have := hpm.mem_iff.2 he
    unfold pmL at this
    obtain ⟨x, hx, rfl⟩ := List.mem_map.1 this
    exact hz x hx
set_option maxHeartbeats 4000000 in
theorem v_permute {w : World} {L : Nat} {Dx : Nat → TypeId → Prop} {vx : Value} {x : List Ent'} (hx0 : Es L Dx w vx x) {M : Nat} (hfx : (x.length + 1) * (L + 3) ≤ M) (hlx : x.length ≤ 524288) (hM : M ≤ 8589934000) {Dp : Nat → TypeId → Prop} {vp : Value} {p : List Int} (hp0 : Sg (gI .i64) Dp w vp p) (lnp : p.length ≤ 1048576) (h12 : ∀ r : List Ent', Asc r → NonZ r → (∀ i, get r i = get x i) → r.length ≤ 12) :
    Calls Tryz.prog 13 #[vx, vp] w fun e w' => ∃ v, e = .returned v ∧ (∃ vr ok, v = .tuple #[vr, .bool ok] ∧ ((ok = false ∧ vr = .slice none 0 0 ∧ ¬ (IsP p ∧ ∀ i, get x i ≠ 0 → 0 ≤ i ∧ i < (p.length : Int))) ∨ (ok = true ∧ (IsP p ∧ ∀ i, get x i ≠ 0 → 0 ≤ i ∧ i < (p.length : Int)) ∧ ∃ r0 rs, Ec (2 * M + 3) (fun b _ => w.heap.size ≤ b) w' vr rs ∧ Asc rs ∧ NonZ rs ∧ (∀ i, get rs i = get (pmL p r0) i) ∧ Asc r0 ∧ NonZ r0 ∧ ∀ i, get r0 i = get x i))) ∧ Ext w w' := by
 have hE : Below w.heap.size w w := Below.refl _ _
 have hx := hx0.old
 clear hx0
 have hp := hp0.old
 clear hp0
 refine calls_of (n := 44) (rs := [.tmp 4, .tmp 5]) func13 rfl rfl rfl (Nat.le_of_ble_eq_true rfl) ?_
 refine wset fun F0 hF0 => ?_
 refine wsr ?_
 refine aS (v := (.slice none (0) (0))) rfl ?_
 refine aS (v := (.bool (false))) rfl ?_
 refine RL.nil ?_
 refine wseq ?_
 refine wsr ?_
 refine mV (v := vp) (hF0 1) ?_
 refine RL.call rfl rfl (by decide) (r_call (vl := [vp]) ent36 rfl) (v_isp hp (by omega)) ?_
 rintro _ w1 ⟨⟨r, rfl, hisp⟩, he2⟩
 replace hE := hE.nx he2
 refine rv (r_not rfl) ?_
 refine RL.nil ?_
 refine wcond (b := !r) rfl (fun hb3 => ?_) (fun hb3 => ?_)
 ·have hb3p := hb3
  have hr0 : r = false := by simpa using hb3
  refine wsr ?_
  refine aS (v := (.slice none (0) (0))) rfl ?_
  refine aS (v := (.bool (false))) rfl ?_
  refine RL.nil ?_
  refine wret ?_
  refine ⟨[(.slice none (0) (0)), (.bool (false))], ⟨rfl, ⟨rfl, trivial⟩⟩, ?_⟩
  exact ⟨⟨_, _, rfl, .inl ⟨rfl, rfl, fun h => by first | exact absurd (hisp.2 h.1) (by rw [hr0]; decide) | exact hout h⟩⟩, hE⟩
 ·have hb3p := hb3
  have hip : IsP p := hisp.1 (by simpa using hb3)
  refine wskip ?_
  refine wsr ?_
  refine mV (v := vx) (hF0 0) ?_
  replace hx := hx.tr (Sm.ext he2)
  refine RL.call rfl rfl (by decide) (r_call (vl := [vx]) ent30 rfl) (v_norm (x := x) (L := L) (M := M) hx (by omega) (by omega) (by omega)) ?_
  rintro vn6 w4 ⟨⟨rs7, ho8, ha9, hz10, hg11, hl12, hw13⟩, he5⟩
  replace ho8 := Oe.fr (D' := (fun b T => w.heap.size ≤ b ∧ T = 96)) (lo' := w.heap.size) ho8 hE.size (fun _ _ h => ⟨Nat.le_trans hE.size h.1, h.2⟩)
  replace hE := hE.nx he5
  refine aS (v := vn6) rfl ?_
  refine RL.nil ?_
  refine wseq ?_
  refine wseq ?_
  obtain ⟨bC, capC, hvC, ge_bC, hc1, hc2, hap⟩ := ho8.ap2 hw13
  subst hvC
  refine wregion ?_
  refine mV (v := (.slice (some ⟨bC, 0, none⟩) (rs7.length) (capC))) rfl ?_
  refine rv (r_len underlying22 rfl) ?_
  refine mV (v := (.int .i64 (0))) rfl ?_
  refine RL.nil ?_
  refine wblock ?_
  refine wset fun F14 hF15 => ?_
  refine wloop (σ := Nat × List Ent') (fun (s : Nat × List Ent') fl wl => match s with | (k, cs) => Off [4, 5, 7, 8, 16, 17, 18, 19, 20, 21, 22, 23, 24, 25, 26, 27, 28, 29, 30, 31, 32, 33, 34, 35, 36, 37, 38, 39, 40] F14 fl ∧ fl 16 = (.int .i64 ((k : Int))) ∧ (k ≤ rs7.length) ∧ (cs = pmL p (rs7.take k) ++ rs7.drop k) ∧ (∀ e ∈ rs7.take k, 0 ≤ e.1 ∧ e.1 < (p.length : Int)) ∧ (Ap (2 * M + 3) (fun b T => w.heap.size ≤ b ∧ T = 96) wl bC 58 cs rs7.length) ∧ (Es L (fun b T => Dx b T ∧ b < w.heap.size) wl vx x) ∧ (Below w.heap.size w wl) ∧ (Sg (gI .i64) (fun b T => Dp b T ∧ b < w.heap.size) wl vp p)) (fun (s : Nat × List Ent') => match s with | (k, cs) => rs7.length - k) (0, rs7) ?_ ?_
  ·replace hx := hx.tr (Sm.ext he5)
   replace hp := hp.tr (Sm.ext (Ext.trans he2 he5))
   exact ⟨Off.refl _ _, (hF15 16).trans (rfl), Nat.zero_le _, (by simp [pmL]), (fun e he => by simp at he), hap, hx, hE, hp⟩
  ·clear hx hE hp hap
   rintro ⟨k, cs⟩ f16 w17 ⟨hoff18, hs19, hk, hcs, hin, hap, hx, hE, hp⟩
   refine wsr ?_
   refine rv (r_lss (k := .i64) (a := (k : Int)) (b := ((rs7.length : Nat) : Int)) hs19 ((hoff18 15 rfl).trans (hF15 15))) ?_
   refine RL.nil ?_
   refine wseq ?_
   refine wcond (b := decide ((k : Int) < ((rs7.length : Nat) : Int))) rfl (fun hb20 => ?_) (fun hb20 => ?_)
   ·have hb20p := of_decide_eq_true hb20
    refine wskip ?_
    refine wseq ?_
    refine wblock ?_
    refine wseq ?_
    have hkl : k < rs7.length := by omega
    have hck := pm_at hkl hcs
    refine wregion ?_
    refine mV (v := (.int .i64 ((k : Int)))) hs19 ?_
    refine rv (r_indexAddr (i := (k : Int)) underlying22 ty58 ((hoff18 14 rfl).trans (hF15 14)) hs19 (by omega) (by omega)) ?_
    obtain ⟨A22, B23, hc21, hx24, hd25, ln26, ln27⟩ := hap.ix (i := (k : Int)) (k) (by omega) (by omega)
    refine rv (r_loada (cs := [(.int .i64 ((cs.getD (k) default).1)), (.bool (decide ((cs.getD (k) default).2.num < 0))), (sv A22), (sv B23)]) underlying58 ag58 ty58 rfl hc21) ?_
    refine RL.run rfl rfl (by decide) (h_alloc (cs := [(.int .i64 0), (.bool false), (.slice none 0 0), (.slice none 0 0)]) ty58 rfl) ?_
    rintro _ w28 ⟨b29, rfl, hs32, hb31, he30⟩
    have lt_bC_b29 := Nat.lt_of_lt_of_eq hap.lt hs32.symm
    have ge_b29 := hE.ge hs32
    replace hE := hE.nx he30
    refine aS (v := (.int .i64 ((k : Int)))) rfl ?_
    refine RL.runs rfl rfl (h_store (vv := (.agg #[(.int .i64 ((cs.getD (k) default).1)), (.bool (decide ((cs.getD (k) default).2.num < 0))), (sv A22), (sv B23)])) (cs := [(.int .i64 ((cs.getD (k) default).1)), (.bool (decide ((cs.getD (k) default).2.num < 0))), (sv A22), (sv B23)]) (o := 0) ty58 rfl rfl rfl rfl (one_cons rfl (one_cons rfl (one_cons hx24.one (one_cons hd25.one one_nil)))) hb31 (Nat.le_of_ble_eq_true rfl)) ?_
    rintro w33 ⟨hn34, hx35, hz36⟩
    replace hE := hE.nb hx35 ge_b29
    have nb_hx35 := (Nb.of hb31 (nu_cons rfl (nu_cons rfl (nu_cons rfl (nu_cons rfl nu_nil)))))
    replace hb31 : Bk w33 b29 58 [(.int .i64 ((cs.getD (k) default).1)), (.bool (decide ((cs.getD (k) default).2.num < 0))), (sv A22), (sv B23)] := hn34
    refine RL.nil ?_
    refine wseq ?_
    refine wsr ?_
    refine rv (r_fieldAddr underlying58 rfl ty3 rfl) ?_
    have hc37 := hb31.cell (j := 0) (u := (.int .i64 ((cs.getD (k) default).1))) rfl
    refine rv (r_load underlying3 ag3 rfl hc37) ?_
    refine rv (r_lss (k := .i64) (a := (cs.getD (k) default).1) (b := 0) rfl rfl) ?_
    refine mV (v := (.bool (decide (((cs.getD (k) default).1) < 0)))) rfl ?_
    rcases Bool.eq_false_or_eq_true (decide (((cs.getD (k) default).1) < 0)) with hb38 | hb38
    ·have hb38p := of_decide_eq_true hb38
     have hbad := hb38p
     refine RL.gno rfl rfl (bool_eq hb38) rfl (by decide) ?_
     refine RL.gno rfl rfl (bool_eq hb38) rfl (by decide) ?_
     refine RL.gno rfl rfl (bool_eq hb38) rfl (by decide) ?_
     refine RL.gno rfl rfl (bool_eq hb38) rfl (by decide) ?_
     refine RL.gno rfl rfl (bool_eq hb38) rfl (by decide) ?_
     refine rv (r_pick_t (v := (.bool (true))) (bool_eq hb38) rfl) ?_
     refine RL.nil ?_
     refine wcond_t rfl ?_
     refine wseq ?_
     have hout : ¬ (IsP p ∧ ∀ i, get x i ≠ 0 → 0 ≤ i ∧ i < (p.length : Int)) := fun h => by
       have h1 := hg11 (rs7.getD k default).1
       rw [get_mem ha9 (getD_mem _ _ hkl)] at h1
       have h2 := h.2 (rs7.getD k default).1 (by rw [← h1]; exact hz10 _ (getD_mem _ _ hkl))
       rw [← hck] at h2
       first | omega | (have h3 := h2.1; have h4 := h2.2; omega)
     refine wregion ?_
     refine aS (v := (.slice none (0) (0))) rfl ?_
     refine aS (v := (.bool (false))) rfl ?_
     refine RL.nil ?_
     refine wret ?_
     refine ⟨[(.slice none (0) (0)), (.bool (false))], ⟨rfl, ⟨rfl, trivial⟩⟩, ?_⟩
     exact ⟨⟨_, _, rfl, .inl ⟨rfl, rfl, fun h => by first | exact absurd (hisp.2 h.1) (by rw [hr0]; decide) | exact hout h⟩⟩, hE⟩
    ·have hb38p := of_decide_eq_false hb38
     have hlow := hb38p
     refine RL.gval rfl rfl (bool_eq hb38) rfl (by decide) (r_fieldAddr underlying58 rfl ty3 rfl) ?_
     have hc39 := hb31.cell (j := 0) (u := (.int .i64 ((cs.getD (k) default).1))) rfl
     refine RL.gval rfl rfl (bool_eq hb38) rfl (by decide) (r_load underlying3 ag3 rfl hc39) ?_
     refine RL.gval rfl rfl (bool_eq hb38) rfl (by decide) (r_move_as (v := vp) ((hoff18 1 rfl).trans ((hF15 1).trans (hF0 1)))) ?_
     obtain ⟨A40, c41, hv42, hc43, hc44⟩ := hp.len
     refine RL.gval rfl rfl (bool_eq hb38) rfl (by decide) (r_len underlying23 hv42) ?_
     refine RL.gval rfl rfl (bool_eq hb38) rfl (by decide) (r_geq (k := .i64) (a := (cs.getD (k) default).1) (b := ((p.length : Nat) : Int)) rfl rfl) ?_
     refine rv (r_pick_f (v := (.bool (decide (((p.length : Nat) : Int) ≤ ((cs.getD (k) default).1))))) (bool_eq hb38) rfl) ?_
     refine RL.nil ?_
     refine wcond (b := decide (((p.length : Nat) : Int) ≤ ((cs.getD (k) default).1))) rfl (fun hb45 => ?_) (fun hb45 => ?_)
     ·have hb45p := of_decide_eq_true hb45
      refine wseq ?_
      have hout : ¬ (IsP p ∧ ∀ i, get x i ≠ 0 → 0 ≤ i ∧ i < (p.length : Int)) := fun h => by
        have h1 := hg11 (rs7.getD k default).1
        rw [get_mem ha9 (getD_mem _ _ hkl)] at h1
        have h2 := h.2 (rs7.getD k default).1 (by rw [← h1]; exact hz10 _ (getD_mem _ _ hkl))
        rw [← hck] at h2
        first | omega | (have h3 := h2.1; have h4 := h2.2; omega)
      refine wregion ?_
      refine aS (v := (.slice none (0) (0))) rfl ?_
      refine aS (v := (.bool (false))) rfl ?_
      refine RL.nil ?_
      refine wret ?_
      refine ⟨[(.slice none (0) (0)), (.bool (false))], ⟨rfl, ⟨rfl, trivial⟩⟩, ?_⟩
      exact ⟨⟨_, _, rfl, .inl ⟨rfl, rfl, fun h => by first | exact absurd (hisp.2 h.1) (by rw [hr0]; decide) | exact hout h⟩⟩, hE⟩
     ·have hb45p := of_decide_eq_false hb45
      have hhigh := hb45p
      refine wskip ?_
      refine wregion ?_
      refine mV (v := (.slice (some ⟨bC, 0, none⟩) (rs7.length) (capC))) ((hoff18 6 rfl).trans (hF15 6)) ?_
      refine mV (v := (.int .i64 ((k : Int)))) rfl ?_
      refine mV (v := vp) ((hoff18 1 rfl).trans ((hF15 1).trans (hF0 1))) ?_
      refine rv (r_fieldAddr underlying58 rfl ty3 rfl) ?_
      have hc46 := hb31.cell (j := 0) (u := (.int .i64 ((cs.getD (k) default).1))) rfl
      refine rv (r_load underlying3 ag3 rfl hc46) ?_
      replace hp := (hp.tr (Sm.ext he30)).tr (Sm.exc hx35 (fun _ _ _ _ hd => absurd hd.2 (Nat.not_lt_of_le ge_b29)))
      obtain ⟨b47, o48, c49, hv50, hc51⟩ := hp.ix (i := (cs.getD (k) default).1) ((cs.getD (k) default).1.toNat) (by omega) (by omega)
      refine rv (r_indexAddr (i := (cs.getD (k) default).1) underlying23 ty3 hv50 rfl (by omega) (by omega)) ?_
      refine rv (r_load (v := (.int .i64 (p.getD ((cs.getD (k) default).1.toNat) default))) underlying3 ag3 rfl hc51) ?_
      refine rv (r_indexAddr (i := (k : Int)) underlying22 ty58 rfl rfl (by omega) (by omega)) ?_
      refine rv (r_fieldAddr underlying58 rfl ty3 rfl) ?_
      replace hap := (hap.ext he30).apn hx35 (Nat.ne_of_lt lt_bC_b29) nb_hx35
      refine RL.runs rfl rfl (h_setPi (i := (k : Int)) ty3 rfl rfl hap (fun h => absurd h.2 (by decide)) (k) (by omega) (by omega)) ?_
      rintro w52 ⟨ha53, hx54⟩
      replace hE := hE.nb hx54 ge_bC
      replace hap := ha53
      refine RL.nil ?_
      refine wregion ?_
      refine rv (r_add (k := .i64) (a := (k : Int)) (b := 1) (c := (k : Int) + 1) hs19 rfl (wi64 (by omega))) ?_
      refine mV (v := (.int .i64 ((k : Int) + 1))) rfl ?_
      refine RL.nil ?_
      replace hx := ((hx.tr (Sm.ext he30)).tr (Sm.exc hx35 (fun _ _ _ _ hd => absurd hd.2 (Nat.not_lt_of_le ge_b29)))).tr (Sm.exc hx54 (fun _ _ _ _ hd => absurd hd.2 (Nat.not_lt_of_le ge_bC)))
      replace hp := hp.tr (Sm.exc hx54 (fun _ _ _ _ hd => absurd hd.2 (Nat.not_lt_of_le ge_bC)))
      refine ⟨(k + 1, (cs.set (k) (p.getD ((cs.getD (k) default).1.toNat) default, (cs.getD (k) default).2))), ⟨?_, ?_, ?_, ?_, ?_, ?_, ?_, ?_, ?_⟩, ?_⟩
      · exact (by repeat (first | exact hoff18 | refine Off.st ?_ (by decide) _))
      · first | rfl | exact int_eq (by omega) | exact bool_eq (by simp)
      · omega
      · rw [hck]; exact pm_step hkl hcs
      · rw [take_snoc rs7 k hkl]; intro e he; rcases List.mem_append.1 he with h | h; exact hin e h; rw [List.mem_singleton.1 h]; rw [hck] at hlow hhigh; exact ⟨by omega, by omega⟩
      · exact hap
      · exact hx
      · exact hE
      · exact hp
      · (try dsimp only)
        omega
   ·have hb20p := of_decide_eq_false hb20
    refine wexit ?_
    refine wseq ?_
    have hcov : ∀ i, get rs7 i ≠ 0 → 0 ≤ i ∧ i < (p.length : Int) := fun i hi => by
      rcases Classical.em (∃ e ∈ rs7, e.1 = i) with ⟨e, he, rfl⟩ | hno
      · exact hin e (by rw [List.take_of_length_le (by omega)]; exact he)
      · exact absurd (get_none fun e he h => hno ⟨e, he, h⟩) hi
    have hr12 := h12 rs7 ha9 hz10 hg11
    refine wregion ?_
    refine mV (v := (.slice (some ⟨bC, 0, none⟩) (rs7.length) (capC))) ((hoff18 6 rfl).trans (hF15 6)) ?_
    obtain ⟨xs0, post0, hae, hfe⟩ := id hap
    refine RL.call rfl rfl (by decide) (r_call (vl := [(.slice (some ⟨bC, 0, none⟩) (rs7.length) (capC)), (.func (.func 38) #[] #[])]) ent37 rfl) (sort_ent (key := fun x : EC => x.1) (ok := fun _ => True) (cl := []) ent38 byidx_ok (Exc.of_ext (Ext.refl _)) hae (by omega) (fun _ _ => trivial) (by omega)) ?_
    rintro _ w55 ⟨rfl, ⟨l0, hl0, hsr, hst0⟩, hx56⟩
    replace hE := hE.nb hx56 ge_bC
    obtain ⟨S0, hS0, hprm, hwk⟩ := sort_liftP hfe hae (fun h => absurd h.2 (by decide)) hx56 hl0 hsr hst0
    replace hap := hS0
    refine RL.nil ?_
    refine wsr ?_
    refine mV (v := (.slice (some ⟨bC, 0, none⟩) (rs7.length) (capC))) ((hoff18 6 rfl).trans (hF15 6)) ?_
    refine aS (v := (.slice (some ⟨bC, 0, none⟩) (rs7.length) (capC))) rfl ?_
    refine aS (v := (.bool (true))) rfl ?_
    refine RL.nil ?_
    refine wret ?_
    refine ⟨[(.slice (some ⟨bC, 0, none⟩) (rs7.length) (capC)), (.bool (true))], ⟨rfl, ⟨rfl, trivial⟩⟩, ?_⟩
    have hne := pm_fin hip ha9 hz10 (fun e he => hin e (by rw [List.take_of_length_le (by omega)]; exact he)) (by rw [hcs, List.take_of_length_le (by omega), List.drop_of_length_le (by omega), List.append_nil] at hprm; exact hprm) hwk
    have hgS : ∀ i, get S0 i = get (pmL p rs7) i := fun i => by rw [← get_perm hprm i, hcs, List.take_of_length_le (by omega), List.drop_of_length_le (by omega), List.append_nil]
    exact ⟨⟨_, _, rfl, .inr ⟨rfl, ⟨hip, fun i hi => (by rw [← hg11 i] at hi; exact hcov i hi)⟩, rs7, S0, hap.ec ge_bC (fun _ _ h => h.1) (by omega) (by omega), hne.1, hne.2, hgS, ha9, hz10, hg11⟩⟩, hE⟩
end Go.Proofs.YtffgajgibddfmaaGreat
namespace Go.Proofs.YtffgajgibddfmaaGreat
open Go.Vg Go.RowKit _root_.Go.Proofs.Tryz
set_option linter.unusedVariables false
open Go.Vm
theorem awk_ok : IsP [2, 0, 1] ∧ ∀ i, get [(0, ((5 : Int) : Rat))] i ≠ 0 → 0 ≤ i ∧ i < (([2, 0, 1] : List Int).length : Int) := by
  refine ⟨⟨by decide, by decide⟩, fun i hi => ?_⟩
  rcases Classical.em ((0 : Int) = i) with h | h
  · subst h; decide
  · exact absurd (get_none fun e he => by rw [List.mem_singleton.1 he]; exact h) hi
theorem awk12 : ∀ r : List Ent', Asc r → NonZ r → (∀ i, get r i = get [(0, ((5 : Int) : Rat))] i) → r.length ≤ 12 := fun r ha hz hg => by
  have h5 : ((5 : Int) : Rat) ≠ 0 := by decide
  rw [canon_ext r [(0, ((5 : Int) : Rat))] ha (by simp [Asc]) hz (fun e he => by rw [List.mem_singleton.1 he]; exact h5) hg]
  decide
theorem awk_perm {r0 rs : List Ent'} (hp : IsP [2, 0, 1] ∧ ∀ i, get [(0, ((5 : Int) : Rat))] i ≠ 0 → 0 ≤ i ∧ i < (([2, 0, 1] : List Int).length : Int)) (ha : Asc rs) (hz : NonZ rs) (hg : ∀ i, get rs i = get (pmL [2, 0, 1] r0) i) (ra : Asc r0) (rz : NonZ r0) (rg : ∀ i, get r0 i = get [(0, ((5 : Int) : Rat))] i) : rs = [(2, ((5 : Int) : Rat))] := by
  have h5 : ((5 : Int) : Rat) ≠ 0 := by decide
  have e := canon_ext r0 [(0, ((5 : Int) : Rat))] ra (by simp [Asc]) rz (fun e he => by rw [List.mem_singleton.1 he]; exact h5) rg
  subst e
  exact canon_ext _ _ ha (by simp [Asc]) hz (fun e he => by rw [List.mem_singleton.1 he]; exact h5) hg
theorem awk_norm {rs : List Ent'} (ha : Asc rs) (hz : NonZ rs) (hg : ∀ i, get rs i = get [(3, ((1 : Int) : Rat)), (1, ((2 : Int) : Rat)), (3, ((-1 : Int) : Rat))] i) : rs = [(1, ((2 : Int) : Rat))] := by
  have h2 : ((2 : Int) : Rat) ≠ 0 := by decide
  refine canon_ext _ _ ha (by simp [Asc]) hz (fun e he => by rw [List.mem_singleton.1 he]; exact h2) fun i => (hg i).trans ?_
  show (if (3 : Int) = i then ((1 : Int) : Rat) else 0) + ((if (1 : Int) = i then ((2 : Int) : Rat) else 0) + ((if (3 : Int) = i then ((-1 : Int) : Rat) else 0) + 0)) = (if (1 : Int) = i then ((2 : Int) : Rat) else 0) + 0
  by_cases h3 : (3 : Int) = i
  · rw [if_pos h3, if_pos h3, if_neg (by omega)]; decide +kernel
  · rw [if_neg h3, if_neg h3]; rw [Rat.add_zero, Rat.zero_add]
theorem awk_dot : dtF [(0, ((2 : Int) : Rat)), (5, ((3 : Int) : Rat))] [(5, ((4 : Int) : Rat)), (7, ((1 : Int) : Rat))] = ((12 : Int) : Rat) := by decide +kernel
set_option maxHeartbeats 1000000 in
theorem l_entry {w : World} {i k : Int} (hk : -9223372036854775808 ≤ k ∧ k ≤ 9223372036854775807) :
    Calls Tryz.prog 43 #[(.int .i64 (i)), (.int .i64 (k))] w fun e w' => ∃ v, e = .returned v ∧ (∃ vn vd, v = .agg #[.int .i64 i, .bool (decide (((k : Int) : Rat).num < 0)), vn, vd] ∧ Rk 3 (fun b T => w.heap.size ≤ b ∧ T = 96) w' (decide (((k : Int) : Rat).num < 0), vn, vd) ((k : Int) : Rat)) ∧ Ext w w' := by
 have hE : Below w.heap.size w w := Below.refl _ _
 refine calls_of (n := 9) (rs := [.cell 4 58]) func43 rfl rfl rfl (Nat.le_of_ble_eq_true rfl) ?_
 refine wset fun F0 hF0 => ?_
 refine wsr ?_
 refine RL.run rfl rfl (by decide) (h_alloc (cs := [(.int .i64 0), (.bool false), (.slice none 0 0), (.slice none 0 0)]) ty58 rfl) ?_
 rintro _ w1 ⟨b2, rfl, hs5, hb4, he3⟩
 have ge_b2 := hE.ge hs5
 replace hE := hE.nx he3
 refine RL.nil ?_
 refine wsr ?_
 refine mV (v := (.int .i64 (i))) (hF0 0) ?_
 refine mV (v := (.int .i64 (k))) (hF0 1) ?_
 refine RL.call rfl rfl (by decide) (r_call (vl := [(.int .i64 (k))]) ent23 rfl) (r03_from (by omega)) ?_
 rintro _ w6 ⟨⟨vn8, vd10, rfl, hn9, hd11, hl12, hl13⟩, he7⟩
 have hlv14 := den_one ((k : Int) : Rat)
 replace hn9 := hn9.fr hE
 replace hd11 := hd11.fr hE
 replace hE := hE.nx he7
 refine rv (r_build (vl := [(0, (.int .i64 (i))), (1, (.agg #[(.bool (decide (((k : Int) : Rat).num < 0))), vn8, vd10]))]) (cs := [(.int .i64 (i)), (.bool (decide (((k : Int) : Rat).num < 0))), vn8, vd10]) underlying58 ty58 rfl (pl58 underlying58) rfl) ?_
 replace hb4 := hb4.ext he7
 refine RL.runs rfl rfl (h_store (vv := (.agg #[(.int .i64 (i)), (.bool (decide (((k : Int) : Rat).num < 0))), vn8, vd10])) (cs := [(.int .i64 (i)), (.bool (decide (((k : Int) : Rat).num < 0))), vn8, vd10]) (o := 0) ty58 rfl rfl rfl rfl (one_cons rfl (one_cons rfl (one_cons hn9.one (one_cons hd11.one one_nil)))) hb4 (Nat.le_of_ble_eq_true rfl)) ?_
 rintro w15 ⟨hn16, hx17, hz18⟩
 replace hE := hE.nb hx17 ge_b2
 have nb_hx17 := (Nb.of hb4 (nu_cons rfl (nu_cons rfl (nu_cons rfl (nu_cons rfl nu_nil)))))
 replace hb4 : Bk w15 b2 58 [(.int .i64 (i)), (.bool (decide (((k : Int) : Rat).num < 0))), vn8, vd10] := hn16
 refine RL.nil ?_
 refine wret ?_
 refine ⟨[(.agg #[(.int .i64 (i)), (.bool (decide (((k : Int) : Rat).num < 0))), vn8, vd10])], ⟨⟨_, _, [(.int .i64 (i)), (.bool (decide (((k : Int) : Rat).num < 0))), vn8, vd10], rfl, ⟨_, underlying58⟩, hb4.cells rfl, .inl ⟨ag58, ⟨_, _, ty58⟩, rfl⟩⟩, trivial⟩, ?_⟩
 replace hn9 := hn9.apn hx17 nb_hx17
 replace hd11 := hd11.apn hx17 nb_hx17
 exact ⟨⟨_, _, rfl, rfl, hn9, hd11, by omega, by omega⟩, hE⟩
set_option maxHeartbeats 4000000 in
theorem l_awake {w : World} :
    Calls Tryz.prog 16 #[] w fun e w' => ∃ v, e = .returned v ∧ v = .bool true ∧ Ext w w' := by
 have hE : Below w.heap.size w w := Below.refl _ _
 refine calls_of (n := 38) (rs := [.tmp 0]) func16 rfl rfl rfl (Nat.le_of_ble_eq_true rfl) ?_
 refine wset fun F0 hF0 => ?_
 refine wsr ?_
 refine aS (v := (.bool (false))) rfl ?_
 refine RL.nil ?_
 refine wsr ?_
 refine RL.call rfl rfl (by decide) (r_call (vl := [(.int .i64 (0)), (.int .i64 (5))]) ent43 rfl) (l_entry (i := 0) (k := 5) (by decide)) ?_
 rintro _ w1 ⟨⟨vn3, vd4, rfl, hk5⟩, he2⟩
 obtain ⟨-, hn6, hd7, ln8, ln9⟩ := hk5
 replace hn6 := hn6.fr hE
 replace hd7 := hd7.fr hE
 replace hE := hE.nx he2
 refine RL.run rfl rfl (by decide) (h_lit (vl := [(0, (.agg #[(.int .i64 (0)), (.bool (decide (((5 : Int) : Rat).num < 0))), vn3, vd4]))]) (cs := [(.int .i64 (0)), (.bool (decide (((5 : Int) : Rat).num < 0))), vn3, vd4]) underlying22 ty58 rfl (by decide) (by first | (simp [Instr.fill, Value.cells]; done) | rfl | kernel_rfl)) ?_
 rintro _ w10 ⟨b11, rfl, hs14, hb13, he12⟩
 have ge_b11 := hE.ge hs14
 replace hE := hE.nx he12
 refine RL.run rfl rfl (by decide) (h_lit (vl := [(0, (.int .i64 (2))), (1, (.int .i64 (0))), (2, (.int .i64 (1)))]) (cs := [(.int .i64 (2)), (.int .i64 (0)), (.int .i64 (1))]) underlying23 ty3 rfl (by decide) (by first | (simp [Instr.fill, Value.cells]; done) | rfl | kernel_rfl)) ?_
 rintro _ w15 ⟨b16, rfl, hs19, hb18, he17⟩
 have lt_b11_b16 := Nat.lt_of_lt_of_eq hb13.lt hs19.symm
 have ge_b16 := hE.ge hs19
 replace hE := hE.nx he17
 replace hb13 := hb13.ext he17
 replace hn6 := hn6.tr (Sm.ext (Ext.trans he12 he17))
 replace hd7 := hd7.tr (Sm.ext (Ext.trans he12 he17))
 have hlit21 := Ec.lit (L := 3) (D := (fun b _ => w.heap.size ≤ b)) (T := 58) [((0, decide (((5 : Int) : Rat).num < 0), vn3, vd4), ((5 : Int) : Rat))] hb13 ge_b11 (Nat.le_of_ble_eq_true rfl) (List.forall_mem_cons.2 ⟨⟨rfl, hn6.mono (fun _ _ h => h.1), hd7.mono (fun _ _ h => h.1), ln8, ln9⟩, (fun _ h => by cases h)⟩)
 refine RL.call rfl rfl (by decide) (r_call (vl := [(.slice (some ⟨b11, 0, none⟩) (1) (1)), (.slice (some ⟨b16, 0, none⟩) (3) (3))]) ent13 rfl) (v_permute (x := [(0, ((5 : Int) : Rat))]) (L := 3) (M := 100) (p := [2, 0, 1]) hlit21.rd (by decide) (by decide) (by decide) (hb18.sg (g := gI .i64) (D := (fun b _ => w.heap.size ≤ b)) (xs := [2, 0, 1]) ge_b16 rfl rfl (by decide)) (by decide) awk12) ?_
 rintro vt0 w20 ⟨⟨vp0, ok0, rfl, hdis⟩, he22⟩
 obtain ⟨rfl, hpp, r00, rs0, hpe, hpa, hpz, hpg, hra, hrz, hrg⟩ := hdis.resolve_left (fun h => h.2.2 awk_ok)
 replace hpe := hpe.mono (D' := (fun b _ => w.heap.size ≤ b)) (fun _ _ h => Nat.le_trans hE.size h)
 replace hE := hE.nx he22
 have hpm1 : rs0 = [(2, ((5 : Int) : Rat))] := awk_perm hpp hpa hpz hpg hra hrz hrg
 rw [hpm1] at hpe
 refine mV (v := (.tuple #[vp0, (.bool (true))])) rfl ?_
 refine rv (r_extract (v := vp0) rfl rfl) ?_
 refine rv (r_extract (v := (.bool (true))) rfl rfl) ?_
 refine aS (v := vp0) rfl ?_
 refine aS (v := (.bool (true))) rfl ?_
 refine RL.nil ?_
 refine wsr ?_
 refine RL.call rfl rfl (by decide) (r_call (vl := [(.int .i64 (3)), (.int .i64 (1))]) ent43 rfl) (l_entry (i := 3) (k := 1) (by decide)) ?_
 rintro _ w23 ⟨⟨vn25, vd26, rfl, hk27⟩, he24⟩
 obtain ⟨-, hn28, hd29, ln30, ln31⟩ := hk27
 replace hn28 := hn28.fr hE
 replace hd29 := hd29.fr hE
 replace hE := hE.nx he24
 refine RL.call rfl rfl (by decide) (r_call (vl := [(.int .i64 (1)), (.int .i64 (2))]) ent43 rfl) (l_entry (i := 1) (k := 2) (by decide)) ?_
 rintro _ w32 ⟨⟨vn34, vd35, rfl, hk36⟩, he33⟩
 obtain ⟨-, hn37, hd38, ln39, ln40⟩ := hk36
 replace hn37 := hn37.fr hE
 replace hd38 := hd38.fr hE
 replace hE := hE.nx he33
 refine RL.call rfl rfl (by decide) (r_call (vl := [(.int .i64 (3)), (.int .i64 (-1))]) ent43 rfl) (l_entry (i := 3) (k := -1) (by decide)) ?_
 rintro _ w41 ⟨⟨vn43, vd44, rfl, hk45⟩, he42⟩
 obtain ⟨-, hn46, hd47, ln48, ln49⟩ := hk45
 replace hn46 := hn46.fr hE
 replace hd47 := hd47.fr hE
 replace hE := hE.nx he42
 refine RL.run rfl rfl (by decide) (h_lit (vl := [(0, (.agg #[(.int .i64 (3)), (.bool (decide (((1 : Int) : Rat).num < 0))), vn25, vd26])), (1, (.agg #[(.int .i64 (1)), (.bool (decide (((2 : Int) : Rat).num < 0))), vn34, vd35])), (2, (.agg #[(.int .i64 (3)), (.bool (decide (((-1 : Int) : Rat).num < 0))), vn43, vd44]))]) (cs := [(.int .i64 (3)), (.bool (decide (((1 : Int) : Rat).num < 0))), vn25, vd26, (.int .i64 (1)), (.bool (decide (((2 : Int) : Rat).num < 0))), vn34, vd35, (.int .i64 (3)), (.bool (decide (((-1 : Int) : Rat).num < 0))), vn43, vd44]) underlying22 ty58 rfl (by decide) (by first | (simp [Instr.fill, Value.cells]; done) | rfl | kernel_rfl)) ?_
 rintro _ w50 ⟨b51, rfl, hs54, hb53, he52⟩
 have hm55 := Ext.trans he22 (Ext.trans he24 (Ext.trans he33 he42))
 replace hb18 := hb18.ext hm55
 have lt_b16_b51 := Nat.lt_of_lt_of_eq hb18.lt hs54.symm
 have ge_b51 := hE.ge hs54
 replace hE := hE.nx he52
 have hm67 := Ext.trans he33 (Ext.trans he42 he52)
 replace hn28 := hn28.tr (Sm.ext hm67)
 replace hd29 := hd29.tr (Sm.ext hm67)
 replace hn37 := hn37.tr (Sm.ext (Ext.trans he42 he52))
 replace hd38 := hd38.tr (Sm.ext (Ext.trans he42 he52))
 replace hn46 := hn46.tr (Sm.ext he52)
 replace hd47 := hd47.tr (Sm.ext he52)
 have hlit66 := Ec.lit (L := 3) (D := (fun b _ => w.heap.size ≤ b)) (T := 58) [((3, decide (((1 : Int) : Rat).num < 0), vn25, vd26), ((1 : Int) : Rat)), ((1, decide (((2 : Int) : Rat).num < 0), vn34, vd35), ((2 : Int) : Rat)), ((3, decide (((-1 : Int) : Rat).num < 0), vn43, vd44), ((-1 : Int) : Rat))] hb53 ge_b51 (Nat.le_of_ble_eq_true rfl) (List.forall_mem_cons.2 ⟨⟨rfl, hn28.mono (fun _ _ h => h.1), hd29.mono (fun _ _ h => h.1), ln30, ln31⟩, (List.forall_mem_cons.2 ⟨⟨rfl, hn37.mono (fun _ _ h => h.1), hd38.mono (fun _ _ h => h.1), ln39, ln40⟩, (List.forall_mem_cons.2 ⟨⟨rfl, hn46.mono (fun _ _ h => h.1), hd47.mono (fun _ _ h => h.1), ln48, ln49⟩, (fun _ h => by cases h)⟩)⟩)⟩)
 refine RL.call rfl rfl (by decide) (r_call (vl := [(.slice (some ⟨b51, 0, none⟩) (3) (3))]) ent30 rfl) (v_norm (x := [(3, ((1 : Int) : Rat)), (1, ((2 : Int) : Rat)), (3, ((-1 : Int) : Rat))]) (L := 3) (M := 100) hlit66.rd (by decide) (by decide) (by decide)) ?_
 rintro vn58 w56 ⟨⟨rs59, ho60, ha61, hz62, hg63, hl64, hw65⟩, he57⟩
 replace ho60 := Oe.fr (D' := (fun b T => w.heap.size ≤ b ∧ T = 96)) (lo' := w.heap.size) ho60 hE.size (fun _ _ h => ⟨Nat.le_trans hE.size h.1, h.2⟩)
 replace hE := hE.nx he57
 have hnm := awk_norm ha61 hz62 hg63
 rw [hnm] at ho60
 refine RL.call rfl rfl (by decide) (r_call (vl := [(.int .i64 (1)), (.int .i64 (2))]) ent43 rfl) (l_entry (i := 1) (k := 2) (by decide)) ?_
 rintro _ w68 ⟨⟨vn70, vd71, rfl, hk72⟩, he69⟩
 obtain ⟨-, hn73, hd74, ln75, ln76⟩ := hk72
 replace hn73 := hn73.fr hE
 replace hd74 := hd74.fr hE
 replace hE := hE.nx he69
 refine RL.run rfl rfl (by decide) (h_lit (vl := [(0, (.agg #[(.int .i64 (1)), (.bool (decide (((2 : Int) : Rat).num < 0))), vn70, vd71]))]) (cs := [(.int .i64 (1)), (.bool (decide (((2 : Int) : Rat).num < 0))), vn70, vd71]) underlying22 ty58 rfl (by decide) (by first | (simp [Instr.fill, Value.cells]; done) | rfl | kernel_rfl)) ?_
 rintro _ w77 ⟨b78, rfl, hs81, hb80, he79⟩
 replace hb53 := hb53.ext (Ext.trans he57 he69)
 have lt_b51_b78 := Nat.lt_of_lt_of_eq hb53.lt hs81.symm
 have ge_b78 := hE.ge hs81
 replace ho60 := ho60.ext he69
 have on_vn58_b78 : vn58.ownBlock ≠ some b78 := fun h => absurd (ho60.lt _ h) (by rw [hs81]; exact Nat.lt_irrefl _)
 replace hE := hE.nx he79
 replace hn73 := hn73.tr (Sm.ext he79)
 replace hd74 := hd74.tr (Sm.ext he79)
 have hlit84 := Ec.lit (L := 3) (D := (fun b _ => w.heap.size ≤ b)) (T := 58) [((1, decide (((2 : Int) : Rat).num < 0), vn70, vd71), ((2 : Int) : Rat))] hb80 ge_b78 (Nat.le_of_ble_eq_true rfl) (List.forall_mem_cons.2 ⟨⟨rfl, hn73.mono (fun _ _ h => h.1), hd74.mono (fun _ _ h => h.1), ln75, ln76⟩, (fun _ h => by cases h)⟩)
 replace ho60 := ho60.ext he79
 refine RL.call rfl rfl (by decide) (r_call (vl := [vn58, (.slice (some ⟨b78, 0, none⟩) (1) (1))]) ent15 rfl) (r06_ident (L := 203) (es := [(1, ((2 : Int) : Rat))]) ((ho60.ec (D' := (fun b _ => w.heap.size ≤ b)) (fun _ h => h) (fun _ _ h => h.1)).wide (by omega)) (hlit84.wide (by omega)) (by omega)) ?_
 rintro _ w82 ⟨rfl, he83⟩
 replace hE := hE.nx he83
 refine mV (v := (.bool (true))) rfl ?_
 refine RL.gcall rfl rfl rfl rfl (by decide) (r_call (vl := [(.int .i64 (0)), (.int .i64 (2))]) ent43 rfl) (l_entry (i := 0) (k := 2) (by decide)) ?_
 rintro _ w85 ⟨⟨vn87, vd88, rfl, hk89⟩, he86⟩
 obtain ⟨-, hn90, hd91, ln92, ln93⟩ := hk89
 replace hn90 := hn90.fr hE
 replace hd91 := hd91.fr hE
 replace hE := hE.nx he86
 refine RL.gcall rfl rfl rfl rfl (by decide) (r_call (vl := [(.int .i64 (5)), (.int .i64 (3))]) ent43 rfl) (l_entry (i := 5) (k := 3) (by decide)) ?_
 rintro _ w94 ⟨⟨vn96, vd97, rfl, hk98⟩, he95⟩
 obtain ⟨-, hn99, hd100, ln101, ln102⟩ := hk98
 replace hn99 := hn99.fr hE
 replace hd100 := hd100.fr hE
 replace hE := hE.nx he95
 refine RL.grun rfl rfl rfl rfl (by decide) (h_lit (vl := [(0, (.agg #[(.int .i64 (0)), (.bool (decide (((2 : Int) : Rat).num < 0))), vn87, vd88])), (1, (.agg #[(.int .i64 (5)), (.bool (decide (((3 : Int) : Rat).num < 0))), vn96, vd97]))]) (cs := [(.int .i64 (0)), (.bool (decide (((2 : Int) : Rat).num < 0))), vn87, vd88, (.int .i64 (5)), (.bool (decide (((3 : Int) : Rat).num < 0))), vn96, vd97]) underlying22 ty58 rfl (by decide) (by first | (simp [Instr.fill, Value.cells]; done) | rfl | kernel_rfl)) ?_
 rintro _ w103 ⟨b104, rfl, hs107, hb106, he105⟩
 have hm108 := Ext.trans he83 (Ext.trans he86 he95)
 replace hb80 := hb80.ext hm108
 have lt_b78_b104 := Nat.lt_of_lt_of_eq hb80.lt hs107.symm
 have ge_b104 := hE.ge hs107
 replace ho60 := ho60.ext hm108
 have on_vn58_b104 : vn58.ownBlock ≠ some b104 := fun h => absurd (ho60.lt _ h) (by rw [hs107]; exact Nat.lt_irrefl _)
 replace hE := hE.nx he105
 refine RL.gcall rfl rfl rfl rfl (by decide) (r_call (vl := [(.int .i64 (5)), (.int .i64 (4))]) ent43 rfl) (l_entry (i := 5) (k := 4) (by decide)) ?_
 rintro _ w109 ⟨⟨vn111, vd112, rfl, hk113⟩, he110⟩
 obtain ⟨-, hn114, hd115, ln116, ln117⟩ := hk113
 replace hn114 := hn114.fr hE
 replace hd115 := hd115.fr hE
 replace hE := hE.nx he110
 refine RL.gcall rfl rfl rfl rfl (by decide) (r_call (vl := [(.int .i64 (7)), (.int .i64 (1))]) ent43 rfl) (l_entry (i := 7) (k := 1) (by decide)) ?_
 rintro _ w118 ⟨⟨vn120, vd121, rfl, hk122⟩, he119⟩
 obtain ⟨-, hn123, hd124, ln125, ln126⟩ := hk122
 replace hn123 := hn123.fr hE
 replace hd124 := hd124.fr hE
 replace hE := hE.nx he119
 refine RL.grun rfl rfl rfl rfl (by decide) (h_lit (vl := [(0, (.agg #[(.int .i64 (5)), (.bool (decide (((4 : Int) : Rat).num < 0))), vn111, vd112])), (1, (.agg #[(.int .i64 (7)), (.bool (decide (((1 : Int) : Rat).num < 0))), vn120, vd121]))]) (cs := [(.int .i64 (5)), (.bool (decide (((4 : Int) : Rat).num < 0))), vn111, vd112, (.int .i64 (7)), (.bool (decide (((1 : Int) : Rat).num < 0))), vn120, vd121]) underlying22 ty58 rfl (by decide) (by first | (simp [Instr.fill, Value.cells]; done) | rfl | kernel_rfl)) ?_
 rintro _ w127 ⟨b128, rfl, hs131, hb130, he129⟩
 replace hb106 := hb106.ext (Ext.trans he110 he119)
 have lt_b104_b128 := Nat.lt_of_lt_of_eq hb106.lt hs131.symm
 have ge_b128 := hE.ge hs131
 have hm132 := Ext.trans he105 (Ext.trans he110 he119)
 replace ho60 := ho60.ext hm132
 have on_vn58_b128 : vn58.ownBlock ≠ some b128 := fun h => absurd (ho60.lt _ h) (by rw [hs131]; exact Nat.lt_irrefl _)
 replace hE := hE.nx he129
 replace hb106 := hb106.ext he129
 have hm135 := Ext.trans he95 (Ext.trans he105 (Ext.trans he110 (Ext.trans he119 he129)))
 replace hn90 := hn90.tr (Sm.ext hm135)
 replace hd91 := hd91.tr (Sm.ext hm135)
 have hm136 := Ext.trans hm132 he129
 replace hn99 := hn99.tr (Sm.ext hm136)
 replace hd100 := hd100.tr (Sm.ext hm136)
 have hlit134 := Ec.lit (L := 3) (D := (fun b _ => w.heap.size ≤ b)) (T := 58) [((0, decide (((2 : Int) : Rat).num < 0), vn87, vd88), ((2 : Int) : Rat)), ((5, decide (((3 : Int) : Rat).num < 0), vn96, vd97), ((3 : Int) : Rat))] hb106 ge_b104 (Nat.le_of_ble_eq_true rfl) (List.forall_mem_cons.2 ⟨⟨rfl, hn90.mono (fun _ _ h => h.1), hd91.mono (fun _ _ h => h.1), ln92, ln93⟩, (List.forall_mem_cons.2 ⟨⟨rfl, hn99.mono (fun _ _ h => h.1), hd100.mono (fun _ _ h => h.1), ln101, ln102⟩, (fun _ h => by cases h)⟩)⟩)
 replace hn114 := hn114.tr (Sm.ext (Ext.trans he119 he129))
 replace hd115 := hd115.tr (Sm.ext (Ext.trans he119 he129))
 replace hn123 := hn123.tr (Sm.ext he129)
 replace hd124 := hd124.tr (Sm.ext he129)
 have hlit137 := Ec.lit (L := 3) (D := (fun b _ => w.heap.size ≤ b)) (T := 58) [((5, decide (((4 : Int) : Rat).num < 0), vn111, vd112), ((4 : Int) : Rat)), ((7, decide (((1 : Int) : Rat).num < 0), vn120, vd121), ((1 : Int) : Rat))] hb130 ge_b128 (Nat.le_of_ble_eq_true rfl) (List.forall_mem_cons.2 ⟨⟨rfl, hn114.mono (fun _ _ h => h.1), hd115.mono (fun _ _ h => h.1), ln116, ln117⟩, (List.forall_mem_cons.2 ⟨⟨rfl, hn123.mono (fun _ _ h => h.1), hd124.mono (fun _ _ h => h.1), ln125, ln126⟩, (fun _ h => by cases h)⟩)⟩)
 refine RL.gcall rfl rfl rfl rfl (by decide) (r_call (vl := [(.slice (some ⟨b104, 0, none⟩) (2) (2)), (.slice (some ⟨b128, 0, none⟩) (2) (2))]) ent20 rfl) (v_dot (x := [(0, ((2 : Int) : Rat)), (5, ((3 : Int) : Rat))]) (y := [(5, ((4 : Int) : Rat)), (7, ((1 : Int) : Rat))]) (L := 3) (M := 100) hlit134.rd hlit137.rd (by decide) (by decide) (by decide) (by decide) (by decide)) ?_
 rintro vt1 w133 ⟨⟨vq, uq, hvq, hqx, hqd, _, _⟩, he138⟩
 rw [awk_dot] at hvq
 subst hvq
 replace hE := hE.nx he138
 rw [awk_dot] at hqx hqd
 refine RL.gcall rfl rfl rfl rfl (by decide) (r_call (vl := [(.int .i64 (12))]) ent23 rfl) (r03_from (by omega)) ?_
 rintro _ w139 ⟨⟨vn141, vd143, rfl, hn142, hd144, hl145, hl146⟩, he140⟩
 have hlv147 := den_one ((12 : Int) : Rat)
 replace hn142 := hn142.fr hE
 replace hd144 := hd144.fr hE
 replace hE := hE.nx he140
 replace hqx := hqx.tr (Sm.ext he140)
 replace hqd := hqd.tr (Sm.ext he140)
 refine RL.gcall rfl rfl rfl rfl (by decide) (r_call (vl := [(.agg #[(.bool (decide (((12 : Int) : Rat).num < 0))), vq, uq]), (.agg #[(.bool (decide (((12 : Int) : Rat).num < 0))), vn141, vd143])]) ent19 rfl) (r03_eqt hqx hqd hn142 hd144) ?_
 rintro _ w148 ⟨rfl, he149⟩
 replace hE := hE.nx he149
 refine rv (r_pick_t (v := (.bool (true))) rfl rfl) ?_
 refine mV (v := (.bool (true))) rfl ?_
 refine RL.gval rfl rfl rfl rfl (by decide) (r_move_as (v := (.bool (true))) rfl) ?_
 refine rv (r_pick_t (v := (.bool (true))) rfl rfl) ?_
 refine mV (v := (.bool (true))) rfl ?_
 refine RL.gval rfl rfl rfl rfl (by decide) (r_move_as (v := vp0) rfl) ?_
 refine RL.gcall rfl rfl rfl rfl (by decide) (r_call (vl := [(.int .i64 (2)), (.int .i64 (5))]) ent43 rfl) (l_entry (i := 2) (k := 5) (by decide)) ?_
 rintro _ w150 ⟨⟨vn152, vd153, rfl, hk154⟩, he151⟩
 obtain ⟨-, hn155, hd156, ln157, ln158⟩ := hk154
 replace hn155 := hn155.fr hE
 replace hd156 := hd156.fr hE
 replace hE := hE.nx he151
 refine RL.grun rfl rfl rfl rfl (by decide) (h_lit (vl := [(0, (.agg #[(.int .i64 (2)), (.bool (decide (((5 : Int) : Rat).num < 0))), vn152, vd153]))]) (cs := [(.int .i64 (2)), (.bool (decide (((5 : Int) : Rat).num < 0))), vn152, vd153]) underlying22 ty58 rfl (by decide) (by first | (simp [Instr.fill, Value.cells]; done) | rfl | kernel_rfl)) ?_
 rintro _ w159 ⟨b160, rfl, hs163, hb162, he161⟩
 have hm164 := Ext.trans he138 (Ext.trans he140 (Ext.trans he149 he151))
 replace hb130 := hb130.ext hm164
 have lt_b128_b160 := Nat.lt_of_lt_of_eq hb130.lt hs163.symm
 have ge_b160 := hE.ge hs163
 have hm165 := Ext.trans he129 (Ext.trans he138 (Ext.trans he140 (Ext.trans he149 he151)))
 replace ho60 := ho60.ext hm165
 have on_vn58_b160 : vn58.ownBlock ≠ some b160 := fun h => absurd (ho60.lt _ h) (by rw [hs163]; exact Nat.lt_irrefl _)
 replace hE := hE.nx he161
 replace hn155 := hn155.tr (Sm.ext he161)
 replace hd156 := hd156.tr (Sm.ext he161)
 have hlit168 := Ec.lit (L := 3) (D := (fun b _ => w.heap.size ≤ b)) (T := 58) [((2, decide (((5 : Int) : Rat).num < 0), vn152, vd153), ((5 : Int) : Rat))] hb162 ge_b160 (Nat.le_of_ble_eq_true rfl) (List.forall_mem_cons.2 ⟨⟨rfl, hn155.mono (fun _ _ h => h.1), hd156.mono (fun _ _ h => h.1), ln157, ln158⟩, (fun _ h => by cases h)⟩)
 have hm169 := Ext.trans he24 (Ext.trans he33 (Ext.trans he42 (Ext.trans he52 (Ext.trans he57 (Ext.trans he69 (Ext.trans he79 (Ext.trans he83 (Ext.trans he86 (Ext.trans he95 (Ext.trans he105 (Ext.trans he110 (Ext.trans he119 (Ext.trans he129 (Ext.trans he138 (Ext.trans he140 (Ext.trans he149 (Ext.trans he151 he161)))))))))))))))))
 replace hpe := hpe.tr (Sm.ext hm169)
 refine RL.gcall rfl rfl rfl rfl (by decide) (r_call (vl := [vp0, (.slice (some ⟨b160, 0, none⟩) (1) (1))]) ent15 rfl) (r06_ident (L := 203) (es := [(2, ((5 : Int) : Rat))]) (hpe.wide (by omega)) (hlit168.wide (by omega)) (by omega)) ?_
 rintro _ w166 ⟨rfl, he167⟩
 replace hE := hE.nx he167
 refine rv (r_pick_t (v := (.bool (true))) rfl rfl) ?_
 refine aS (v := (.bool (true))) rfl ?_
 refine RL.nil ?_
 refine wret ?_
 refine ⟨[(.bool (true))], ⟨rfl, trivial⟩, ?_⟩
 exact ⟨rfl, hE⟩
end Go.Proofs.YtffgajgibddfmaaGreat
namespace Go.Proofs.YtffgajgibddfmaaGreat
open Go.Vg Go.RowKit _root_.Go.Proofs.Tryz
set_option linter.unusedVariables false
open Go.Vm
theorem fit_le {n m t M : Nat} (h : n ≤ m) (h2 : (m + 1) * t ≤ M) : (n + 1) * t ≤ M := Nat.le_trans (Nat.mul_le_mul_right t (by omega)) h2
theorem neg_one_law (q : Rat) : q + ((-1 : Int) : Rat) * q = 0 := by
  have : ((-1 : Int) : Rat) = -1 := by decide +kernel
  rw [this]; grind
set_option maxHeartbeats 4000000 in
theorem l_space {w : World} {Da : Nat → TypeId → Prop} {va : Value} {a : List Ent'} (ha : Es 1048576 Da w va a) {Db : Nat → TypeId → Prop} {vb : Value} {b : List Ent'} (hb : Es 1048576 Db w vb b) {Dc : Nat → TypeId → Prop} {vc : Value} {c : List Ent'} (hc : Es 1048576 Dc w vc c) :
    Calls Tryz.prog 5 #[va, vb, vc] w fun e w' => ∃ v, e = .returned v ∧ v = .bool true ∧ Ext w w' := by
 have hE : Below w.heap.size w w := Below.refl _ _
 refine calls_of (n := 44) (rs := [.tmp 6]) func5 rfl rfl rfl (Nat.le_of_ble_eq_true rfl) ?_
 refine wset fun F0 hF0 => ?_
 refine wsr ?_
 refine aS (v := (.bool (false))) rfl ?_
 refine RL.nil ?_
 refine wsr ?_
 refine mV (v := va) (hF0 0) ?_
 refine RL.call rfl rfl (by decide) (r_call (vl := [va]) ent8 rfl) (l_short (L := 1048576) ha) ?_
 rintro vs3 w1 ⟨hr4, he2⟩
 replace hE := hE.nx he2
 have hsl5 := shL_len a
 refine mV (v := vb) (hF0 1) ?_
 replace hb := hb.tr (Sm.ext he2)
 refine RL.call rfl rfl (by decide) (r_call (vl := [vb]) ent8 rfl) (l_short (L := 1048576) hb) ?_
 rintro vs8 w6 ⟨hr9, he7⟩
 replace hE := hE.nx he7
 have hsl10 := shL_len b
 refine mV (v := vc) (hF0 2) ?_
 replace hc := hc.tr (Sm.ext (Ext.trans he2 he7))
 refine RL.call rfl rfl (by decide) (r_call (vl := [vc]) ent8 rfl) (l_short (L := 1048576) hc) ?_
 rintro vs13 w11 ⟨hr14, he12⟩
 replace hE := hE.nx he12
 have hsl15 := shL_len c
 refine aS (v := vs3) rfl ?_
 refine aS (v := vs8) rfl ?_
 refine aS (v := vs13) rfl ?_
 refine RL.nil ?_
 refine wsr ?_
 refine RL.call rfl rfl (by decide) (r_call (vl := []) ent16 rfl) (l_awake) ?_
 rintro _ w16 ⟨rfl, he17⟩
 replace hE := hE.nx he17
 refine mV (v := (.bool (true))) rfl ?_
 refine RL.gval rfl rfl rfl rfl (by decide) (r_move_as (v := vs3) rfl) ?_
 refine RL.gval rfl rfl rfl rfl (by decide) (r_move_as (v := vs8) rfl) ?_
 have hm28 := Ext.trans he7 (Ext.trans he12 he17)
 replace hr4 := hr4.tr (Sm.ext hm28)
 replace hr9 := hr9.tr (Sm.ext (Ext.trans he12 he17))
 refine RL.gcall rfl rfl rfl rfl (by decide) (r_call (vl := [vs3, vs8]) ent21 rfl) (v_add (L := 1048576) (M := 42991739) (x := (shL a)) (y := (shL b)) (hr4.wide (by omega)) (hr9.wide (by omega)) (fit_le (m := 40) (by omega) (by decide)) (by omega) (fit_le (m := 40) (by omega) (by decide)) (by omega) (by decide)) ?_
 rintro vn20 w18 ⟨⟨rs21, ho22, ha23, hz24, hg25, hl26, hw27⟩, he19⟩
 replace ho22 := Oe.fr (D' := (fun b T => w.heap.size ≤ b ∧ T = 96)) (lo' := w.heap.size) ho22 hE.size (fun _ _ h => ⟨Nat.le_trans hE.size h.1, h.2⟩)
 replace hE := hE.nx he19
 refine RL.gval rfl rfl rfl rfl (by decide) (r_move_as (v := vs13) rfl) ?_
 replace hr14 := hr14.tr (Sm.ext (Ext.trans he17 he19))
 refine RL.gcall rfl rfl rfl rfl (by decide) (r_call (vl := [vn20, vs13]) ent21 rfl) (v_add (L := (2 * 42991739 + 3)) (M := 6964662204) (x := rs21) (y := (shL c)) ((ho22.rd (D' := (fun b _ => w.heap.size ≤ b)) (fun _ h => h) (fun _ _ h => h.1)).wide (by omega)) (hr14.wide (by omega)) (fit_le (m := 80) (by omega) (by decide)) (by omega) (fit_le (m := 80) (by omega) (by decide)) (by omega) (by decide)) ?_
 rintro vn31 w29 ⟨⟨rs32, ho33, ha34, hz35, hg36, hl37, hw38⟩, he30⟩
 replace ho33 := Oe.fr (D' := (fun b T => w.heap.size ≤ b ∧ T = 96)) (lo' := w.heap.size) ho33 hE.size (fun _ _ h => ⟨Nat.le_trans hE.size h.1, h.2⟩)
 replace hE := hE.nx he30
 refine RL.gval rfl rfl rfl rfl (by decide) (r_move_as (v := vs3) rfl) ?_
 refine RL.gval rfl rfl rfl rfl (by decide) (r_move_as (v := vs8) rfl) ?_
 refine RL.gval rfl rfl rfl rfl (by decide) (r_move_as (v := vs13) rfl) ?_
 replace hr9 := hr9.tr (Sm.ext (Ext.trans he19 he30))
 replace hr14 := hr14.tr (Sm.ext he30)
 refine RL.gcall rfl rfl rfl rfl (by decide) (r_call (vl := [vs8, vs13]) ent21 rfl) (v_add (L := 1048576) (M := 42991739) (x := (shL b)) (y := (shL c)) (hr9.wide (by omega)) (hr14.wide (by omega)) (fit_le (m := 40) (by omega) (by decide)) (by omega) (fit_le (m := 40) (by omega) (by decide)) (by omega) (by decide)) ?_
 rintro vn41 w39 ⟨⟨rs42, ho43, ha44, hz45, hg46, hl47, hw48⟩, he40⟩
 replace ho43 := Oe.fr (D' := (fun b T => w.heap.size ≤ b ∧ T = 96)) (lo' := w.heap.size) ho43 hE.size (fun _ _ h => ⟨Nat.le_trans hE.size h.1, h.2⟩)
 replace hE := hE.nx he40
 have hm59 := Ext.trans he19 (Ext.trans he30 he40)
 replace hr4 := hr4.tr (Sm.ext hm59)
 refine RL.gcall rfl rfl rfl rfl (by decide) (r_call (vl := [vs3, vn41]) ent21 rfl) (v_add (L := (2 * 42991739 + 3)) (M := 6964662204) (x := (shL a)) (y := rs42) (hr4.wide (by omega)) ((ho43.rd (D' := (fun b _ => w.heap.size ≤ b)) (fun _ h => h) (fun _ _ h => h.1)).wide (by omega)) (fit_le (m := 80) (by omega) (by decide)) (by omega) (fit_le (m := 80) (by omega) (by decide)) (by omega) (by decide)) ?_
 rintro vn51 w49 ⟨⟨rs52, ho53, ha54, hz55, hg56, hl57, hw58⟩, he50⟩
 replace ho53 := Oe.fr (D' := (fun b T => w.heap.size ≤ b ∧ T = 96)) (lo' := w.heap.size) ho53 hE.size (fun _ _ h => ⟨Nat.le_trans hE.size h.1, h.2⟩)
 replace hE := hE.nx he50
 have hsame24 : rs32 = rs52 := canon_ext _ _ ha34 ha54 hz35 hz55 (fun i => by rw [hg36 i, hg25 i, hg56 i, hg46 i, Rat.add_assoc])
 rw [← hsame24] at ho53
 replace ho33 := ho33.ext (Ext.trans he40 he50)
 refine RL.gcall rfl rfl rfl rfl (by decide) (r_call (vl := [vn31, vn51]) ent15 rfl) (r06_ident (L := 17179869184) (es := rs32) ((ho33.ec (D' := (fun b _ => w.heap.size ≤ b)) (fun _ h => h) (fun _ _ h => h.1)).wide (by omega)) ((ho53.ec (D' := (fun b _ => w.heap.size ≤ b)) (fun _ h => h) (fun _ _ h => h.1)).wide (by omega)) (by omega)) ?_
 rintro _ w60 ⟨rfl, he61⟩
 replace hE := hE.nx he61
 refine rv (r_pick_t (v := (.bool (true))) rfl rfl) ?_
 refine mV (v := (.bool (true))) rfl ?_
 refine RL.gval rfl rfl rfl rfl (by decide) (r_move_as (v := vs3) rfl) ?_
 refine RL.gval rfl rfl rfl rfl (by decide) (r_move_as (v := vs8) rfl) ?_
 replace hr4 := hr4.tr (Sm.ext (Ext.trans he50 he61))
 have hm72 := Ext.trans he40 (Ext.trans he50 he61)
 replace hr9 := hr9.tr (Sm.ext hm72)
 refine RL.gcall rfl rfl rfl rfl (by decide) (r_call (vl := [vs3, vs8]) ent21 rfl) (v_add (L := 1048576) (M := 42991739) (x := (shL a)) (y := (shL b)) (hr4.wide (by omega)) (hr9.wide (by omega)) (fit_le (m := 40) (by omega) (by decide)) (by omega) (fit_le (m := 40) (by omega) (by decide)) (by omega) (by decide)) ?_
 rintro vn64 w62 ⟨⟨rs65, ho66, ha67, hz68, hg69, hl70, hw71⟩, he63⟩
 replace ho66 := Oe.fr (D' := (fun b T => w.heap.size ≤ b ∧ T = 96)) (lo' := w.heap.size) ho66 hE.size (fun _ _ h => ⟨Nat.le_trans hE.size h.1, h.2⟩)
 replace hE := hE.nx he63
 refine RL.gval rfl rfl rfl rfl (by decide) (r_move_as (v := vs8) rfl) ?_
 refine RL.gval rfl rfl rfl rfl (by decide) (r_move_as (v := vs3) rfl) ?_
 replace hr9 := hr9.tr (Sm.ext he63)
 replace hr4 := hr4.tr (Sm.ext he63)
 refine RL.gcall rfl rfl rfl rfl (by decide) (r_call (vl := [vs8, vs3]) ent21 rfl) (v_add (L := 1048576) (M := 42991739) (x := (shL b)) (y := (shL a)) (hr9.wide (by omega)) (hr4.wide (by omega)) (fit_le (m := 40) (by omega) (by decide)) (by omega) (fit_le (m := 40) (by omega) (by decide)) (by omega) (by decide)) ?_
 rintro vn75 w73 ⟨⟨rs76, ho77, ha78, hz79, hg80, hl81, hw82⟩, he74⟩
 replace ho77 := Oe.fr (D' := (fun b T => w.heap.size ≤ b ∧ T = 96)) (lo' := w.heap.size) ho77 hE.size (fun _ _ h => ⟨Nat.le_trans hE.size h.1, h.2⟩)
 replace hE := hE.nx he74
 have hsame33 : rs65 = rs76 := canon_ext _ _ ha67 ha78 hz68 hz79 (fun i => by rw [hg69 i, hg80 i, Rat.add_comm])
 rw [← hsame33] at ho77
 replace ho66 := ho66.ext he74
 refine RL.gcall rfl rfl rfl rfl (by decide) (r_call (vl := [vn64, vn75]) ent15 rfl) (r06_ident (L := 17179869184) (es := rs65) ((ho66.ec (D' := (fun b _ => w.heap.size ≤ b)) (fun _ h => h) (fun _ _ h => h.1)).wide (by omega)) ((ho77.ec (D' := (fun b _ => w.heap.size ≤ b)) (fun _ h => h) (fun _ _ h => h.1)).wide (by omega)) (by omega)) ?_
 rintro _ w83 ⟨rfl, he84⟩
 replace hE := hE.nx he84
 refine rv (r_pick_t (v := (.bool (true))) rfl rfl) ?_
 refine mV (v := (.bool (true))) rfl ?_
 refine RL.gval rfl rfl rfl rfl (by decide) (r_move_as (v := vs3) rfl) ?_
 refine RL.gcall rfl rfl rfl rfl (by decide) (r_call (vl := [(.int .i64 (-1))]) ent23 rfl) (r03_from (by omega)) ?_
 rintro _ w85 ⟨⟨vn87, vd89, rfl, hn88, hd90, hl91, hl92⟩, he86⟩
 have hlv93 := den_one (((-1) : Int) : Rat)
 replace hn88 := hn88.fr hE
 replace hd90 := hd90.fr hE
 replace hE := hE.nx he86
 refine RL.gval rfl rfl rfl rfl (by decide) (r_move_as (v := vs3) rfl) ?_
 have hm104 := Ext.trans he74 (Ext.trans he84 he86)
 replace hr4 := hr4.tr (Sm.ext hm104)
 refine RL.gcall rfl rfl rfl rfl (by decide) (r_call (vl := [vs3, (.agg #[(.bool (decide ((((-1) : Int) : Rat).num < 0))), vn87, vd89]), vs3]) ent22 rfl) (v_ads (L := 1048576) (M := 42991739) (x := (shL a)) (y := (shL a)) (hr4.wide (by omega)) (hr4.wide (by omega)) (fit_le (m := 40) (by omega) (by decide)) (by omega) (fit_le (m := 40) (by omega) (by decide)) (by omega) (by decide) hn88 (digs_lm _) (by omega) hd90 (digs_lm _) (by omega) (ratOf_canon _)) ?_
 rintro vn96 w94 ⟨⟨rs97, ho98, ha99, hz100, hg101, hl102, hw103⟩, he95⟩
 replace ho98 := Oe.fr (D' := (fun b T => w.heap.size ≤ b ∧ T = 96)) (lo' := w.heap.size) ho98 hE.size (fun _ _ h => ⟨Nat.le_trans hE.size h.1, h.2⟩)
 replace hE := hE.nx he95
 have hnil : rs97 = [] := canon_ext _ [] ha99 (by simp [Asc]) hz100 (fun _ h => by cases h) (fun i => by rw [hg101 i, neg_one_law]; rfl)
 obtain ⟨A105, c106, hv107, hc108, hc109⟩ := ho98.len
 refine RL.gval rfl rfl rfl rfl (by decide) (r_len underlying22 hv107) ?_
 refine RL.gval rfl rfl rfl rfl (by decide) (r_eql (k := .i64) (a := ((rs97.length : Nat) : Int)) (b := 0) rfl rfl) ?_
 refine rv (r_pick_t (v := (.bool (decide (((rs97.length : Nat) : Int) = 0)))) rfl rfl) ?_
 refine aS (v := (.bool (decide (((rs97.length : Nat) : Int) = 0)))) rfl ?_
 refine RL.nil ?_
 refine wret ?_
 refine ⟨[(.bool (decide (((rs97.length : Nat) : Int) = 0)))], ⟨rfl, trivial⟩, ?_⟩
 exact ⟨bool_eq (decide_eq_true (by rw [hnil]; rfl)), hE⟩
end Go.Proofs.YtffgajgibddfmaaGreat
namespace Go.Proofs.YtffgajgibddfmaaGreat
open Go.Vg Go.RowKit Go.Vm Go.ChangeShapes Go.WideShapes _root_.Go.Proofs.Tryz
namespace bulks
theorem one_le {H : Type} (d : DataW H) : 1 ≤ Rows.uptoBulk d := by
  cases d with
  | lit l => cases l <;> simp [Rows.uptoBulk]
  | nil => simp [Rows.uptoBulk]
  | ptr d => simp [Rows.uptoBulk]
  | slice elems spare => simp [Rows.uptoBulk]
  | agg parts => simp [Rows.uptoBulk]
  | iface t d => simp [Rows.uptoBulk]
  | map entries => simp [Rows.uptoBulk]
  | held h => simp [Rows.uptoBulk]
theorem part_le {H : Type} {d : DataW H} {l : List (DataW H)} (h : d ∈ l) : Rows.uptoBulk d ≤ Rows.uptoBulkAll l := by
  induction l with
  | nil => cases h
  | cons x r ih =>
    simp only [Rows.uptoBulkAll]
    cases List.mem_cons.1 h with
    | inl e => subst e; omega
    | inr e => have := ih e; omega
theorem length_le {H : Type} (l : List (DataW H)) : l.length ≤ Rows.uptoBulkAll l := by
  induction l with
  | nil => simp [Rows.uptoBulkAll]
  | cons x r ih => have := one_le x; simp only [Rows.uptoBulkAll, List.length_cons]; omega
end bulks
section
variable {H : Type} {enc : TypeId × Value → H} {w : World} {base : Nat} {spare : Nat → Bool} {held : Bool}
theorem flat_one (xs : List Nat) : (xs.map fun n : Nat => [(.int .u32 (n : Int) : Value)]).flatten = xs.map (gN .u32) := by
  induction xs with
  | nil => rfl
  | cons a l ih => rw [List.map_cons, List.flatten_cons, ih]; rfl
theorem sg_of_cells {x : Addr} {len cap : Nat} {xs : List Nat} (hl : xs.length = len) (hlc : len ≤ cap) (hm : cap ≤ maxLen) (hc : ∀ i, i < len → w.cell? (x.add i) = some (.int .u32 ((xs.getD i default : Nat) : Int))) : Sg (gN .u32) DT w (.slice (some x) len cap) xs := by
  have h := Ss.of_cells (c := fun n : Nat => [(.int .u32 (n : Int) : Value)]) (size := 1) (by decide) (fun _ => rfl) (w := w) (x := x) hl hlc hm (fun i hi j u hj => by
    match j, hj with
    | 0, hj =>
      have e : u = .int .u32 ((xs.getD i default : Nat) : Int) := by simpa using hj.symm
      rw [e]
      have := hc i hi
      simpa using this
    | j + 1, hj => simp at hj)
  obtain ⟨_, h2⟩ := h
  rw [flat_one] at h2
  exact h2
theorem open_limbs {fuel : Nat} {v : Value} {x : DataW H × List MemPlace} (h : DataW.trod enc Tryz.prog w base spare held fuel 40 [v] = some x) : ∃ (A : SV) (xs : List Nat), v = sv A ∧ Sg (gN .u32) DT w (sv A) xs ∧ Lm xs ∧ xs.length ≤ Rows.uptoBulk x.1 := by
  rcases Go.Deep.open_slice underlying40 h with ⟨hcs, _⟩ | ⟨a, len, cap, m, n, D, Pl, hcs, hb, hl, hm, hmm, rfl, hx⟩
  · injection hcs with hcs
    exact ⟨(none, 0, 0), [], hcs, Sg.nil, Lm.nil, Nat.zero_le _⟩
  · injection hcs with hcs
    have hlm : len ≤ m := by rw [hmm]; split <;> omega
    have each : ∀ i, i < len → ∃ z : Nat, w.cell? (a.add i) = some (.int .u32 (z : Int)) ∧ z < 4294967296 := fun i hi => by
      obtain ⟨cs', h1, h2⟩ := hx i (by omega)
      have ce : Tryz.prog.cellsOf 96 = 1 := by kernel_rfl
      rw [ce] at h1
      obtain ⟨_, hlen, hcell⟩ := World.cells?_some h1
      obtain ⟨z, rfl, _, hwf⟩ := DataW.trod_int underlying96 h2
      have e0 := hcell 0 (by omega)
      rw [Go.Deep.add_add] at e0
      have hr : 0 ≤ z ∧ z < 4294967296 := by simp [Lit.wf, IntKind.min, IntKind.max, IntKind.signed, IntKind.bits] at hwf; omega
      refine ⟨z.toNat, ?_, by omega⟩
      rw [show ((z.toNat : Nat) : Int) = z by omega]
      simpa using e0
    obtain ⟨q, hq⟩ := Go.Deep.choose_lt each
    refine ⟨(some a, len, cap), byR q len, hcs, sg_of_cells (length_byR ..) hl hm (fun i hi => by rw [byR_at hi]; exact (hq i hi).1), fun z hz => ?_, ?_⟩
    · obtain ⟨i, hi, rfl⟩ := List.getElem_of_mem hz
      rw [length_byR] at hi
      have := (hq i hi).2
      have e := byR_at (f := q) hi
      simp only [List.getD_eq_getElem?_getD] at e
      rw [List.getElem?_eq_getElem (by rw [length_byR]; exact hi), Option.getD_some] at e
      rw [e]; exact this
    · have := bulks.length_le ((List.range len).map D)
      simp only [Rows.uptoBulk]
      rw [length_byR]
      simp only [List.length_map, List.length_range] at this
      omega
theorem list4 {l : List Value} (h : l.length = 4) : ∃ a b c d, l = [a, b, c, d] := by
  match l, h with
  | [a, b, c, d], _ => exact ⟨a, b, c, d, rfl⟩
theorem list2' {α : Type} {l : List α} (h : l.length = 2) : ∃ a b, l = [a, b] := by
  match l, h with
  | [a, b], _ => exact ⟨a, b, rfl⟩
theorem open_rat {fuel : Nat} {c1 c2 c3 : Value} {x : DataW H × List MemPlace} (h : DataW.trod enc Tryz.prog w base spare held fuel 44 [c1, c2, c3] = some x) :
    ∃ (s : Bool) (A B : SV), c1 = .bool s ∧ c2 = sv A ∧ c3 = sv B ∧ ∃ q, Rz (Rows.uptoBulk x.1) DT w (s, sv A, sv B) q := by
  obtain ⟨xs, n, _, hxy, _, hxl, hf⟩ := DataW.trod_struct underlying44 h
  have g0 := hf 0 _ rfl
  have g1 := hf 1 _ rfl
  have ci : Tryz.prog.cellsOf 42 = 2 := by kernel_rfl
  have cs : Tryz.prog.cellsOf 40 = 1 := by kernel_rfl
  have cb : Tryz.prog.cellsOf 4 = 1 := by kernel_rfl
  obtain ⟨y0, y1, rfl⟩ := list2' hxl
  simp [ci, cs] at g0 g1
  obtain ⟨zs, n2, _, hzy, _, hzl, hz⟩ := DataW.trod_struct underlying42 g0
  have k0 := hz 0 _ rfl
  have k1 := hz 1 _ rfl
  obtain ⟨z0, z1, rfl⟩ := list2' hzl
  simp [cb, cs] at k0 k1
  obtain ⟨s, e1, _⟩ := DataW.trod_bool underlying4 k0
  obtain ⟨A, xa, e2, ha, la, ba⟩ := open_limbs k1
  obtain ⟨B, xb, e3, hb, lb, bb⟩ := open_limbs g1
  have e1' : c1 = .bool s := by simpa using e1
  refine ⟨s, A, B, e1', e2, e3, _, xa, xb, ha, la, ?_, hb, lb, ?_, rfl⟩
  · rw [hxy]
    simp only [Rows.uptoBulk, List.map_cons, List.map_nil, Rows.uptoBulkAll]
    rw [hzy]
    simp only [Rows.uptoBulk, List.map_cons, List.map_nil, Rows.uptoBulkAll]
    omega
  · rw [hxy]
    simp only [Rows.uptoBulk, List.map_cons, List.map_nil, Rows.uptoBulkAll]
    omega
theorem open_entries {fuel : Nat} {a0 : Option Addr} {len0 cap0 : Nat} {x : DataW H × List MemPlace} (h : DataW.trod enc Tryz.prog w base spare held fuel 22 [.slice a0 len0 cap0] = some x) (hk : Rows.uptoBulk x.1 ≤ 1048576) :
    ∃ es, Es 1048576 DT w (.slice a0 len0 cap0) es ∧ es.length ≤ 1048576 := by
  rcases Go.Deep.open_slice underlying22 h with ⟨hcs, _⟩ | ⟨a, len, cap, m, n, D, Pl, hcs, hb, hl, hm, hmm, rfl, hx⟩
  · injection hcs with hcs
    rw [hcs]
    exact ⟨[], Es.nil, Nat.zero_le _⟩
  · injection hcs with hcs
    injection hcs with h1 h2 h3
    subst h1 h2 h3
    have hlm : len0 ≤ m := by rw [hmm]; split <;> omega
    have hbulk : Rows.uptoBulkAll ((List.range len0).map D) ≤ 1048576 := by simp only [Rows.uptoBulk] at hk; omega
    have each : ∀ i, i < len0 → ∃ p : EC × Rat, (∀ j u, (entC p.1)[j]? = some u → w.cell? (a.add (i * 4 + j)) = some u) ∧ Rz 1048576 DT w (rcOf p.1) p.2 := fun i hi => by
      obtain ⟨cs', h1, h2⟩ := hx i (by omega)
      have ce : Tryz.prog.cellsOf 58 = 4 := by kernel_rfl
      have ci : Tryz.prog.cellsOf 3 = 1 := by kernel_rfl
      have cr : Tryz.prog.cellsOf 44 = 3 := by kernel_rfl
      rw [ce] at h1
      obtain ⟨_, hlen, hcell⟩ := World.cells?_some h1
      obtain ⟨c0, c1, c2, c3, rfl⟩ := list4 hlen
      obtain ⟨xs, n2, _, hxy, _, hxl, hf⟩ := DataW.trod_struct underlying58 h2
      have g0 := hf 0 _ rfl
      have g1 := hf 1 _ rfl
      obtain ⟨y0, y1, rfl⟩ := list2' hxl
      simp [ci, cr] at g0 g1
      obtain ⟨z, e0, _, _⟩ := DataW.trod_int underlying3 g0
      obtain ⟨s, A, B, e1, e2, e3, q, hq⟩ := open_rat g1
      have e0' : c0 = .int .i64 z := by simpa using e0
      subst e0' e1 e2 e3
      refine ⟨((z, s, A, B), q), fun j u hj => ?_, hq.wide ?_⟩
      · have hj4 : j < 4 := by
          rcases Nat.lt_or_ge j 4 with h | h
          · exact h
          · rw [List.getElem?_eq_none (by simpa using h)] at hj; cases hj
        have := hcell j hj4
        rw [Go.Deep.add_add] at this
        rw [this]; exact hj
      · have h5 := bulks.part_le (d := D i) (l := (List.range len0).map D) (List.mem_map.2 ⟨i, List.mem_range.2 hi, rfl⟩)
        have h6 : (D i) = .agg [y0.1, y1.1] := by simpa using congrArg Prod.fst hxy
        rw [h6] at h5
        simp only [Rows.uptoBulk, Rows.uptoBulkAll] at h5
        omega
    obtain ⟨q, hq⟩ := Go.Deep.choose_lt each
    have hss := Ss.of_cells (c := entC) (size := 4) (by decide) entC_len (w := w) (x := a) (xs := byR (fun i => (q i).1) len0) (length_byR ..) hl hm (fun i hi j u hj => by rw [byR_at hi] at hj; exact (hq i hi).1 j u hj)
    refine ⟨byR (fun i => ((q i).1.1, (q i).2)) len0, ⟨_, hss, by rw [length_byR, length_byR], fun k hk => ?_⟩, ?_⟩
    · rw [length_byR] at hk
      rw [byR_at hk, byR_at hk]
      exact ⟨rfl, (hq k hk).2⟩
    · have := bulks.length_le ((List.range len0).map D)
      rw [List.length_map, List.length_range] at this
      rw [length_byR]
      omega
end
end Go.Proofs.YtffgajgibddfmaaGreat
