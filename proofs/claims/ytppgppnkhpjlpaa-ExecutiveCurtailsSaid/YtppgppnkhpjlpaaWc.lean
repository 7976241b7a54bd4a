/- Walks, printed by program. -/
import Derived.Test.YtppgppnkhpjlpaaWv
import Derived.Test.YtppgppnkhpjlpaaVgh
namespace Go.Proofs.Ytppgppnkhpjlpaa
open Go.Vg Go.RowKit
set_option linter.unusedVariables false

open Go.Vm

abbrev loadC : Int × Int → List Value := fun p => [.int .i64 p.1, .int .i64 p.2]
def remF (ls : List (Int × Int)) (part amount x : Int) : Int := (part * (ls.getD x.toNat default).1) % amount
theorem mul_bound {a b : Int} (ha : 0 ≤ a ∧ a ≤ 33554432) (hb : 0 ≤ b ∧ b ≤ 1048576) : 0 ≤ a * b ∧ a * b ≤ 35184372088832 := by
  refine ⟨Int.mul_nonneg ha.1 hb.1, ?_⟩
  have h1 : a * b ≤ 33554432 * b := Int.mul_le_mul_of_nonneg_right ha.2 hb.1
  omega

set_option maxHeartbeats 1000000 in
theorem clone_int {D : Nat → TypeId → Prop} {vs : Value} {G : List Int} {w : World} (hs : Sg (gI .i64) D w vs G) (hG : 0 < G.length) (hGl : G.length ≤ 1099511627776) :
    Calls Try.prog 21 #[vs] w fun e w' => ∃ v, e = .returned v ∧ ∃ b cap, v = .slice (some ⟨b, 0, none⟩) G.length cap ∧ w.heap.size ≤ b ∧ G.length ≤ cap ∧ cap ≤ 9223372036854775807 ∧ Ar (gI .i64) w' b 3 0 G G.length ∧ Ext w w' := by
  have hE : Below w.heap.size w w := Below.refl _ _
  refine calls_of (n := 8) (rs := [.tmp 2]) Try.func21 rfl rfl rfl (Nat.le_of_ble_eq_true rfl) ?_
  refine wset fun F0 hF0 => ?_
  refine wseq ?_
  refine wregion ?_
  refine RL.val rfl rfl (by decide) (r_assign_as (v := (.slice none (0) (0))) rfl) ?_
  refine RL.nil ?_
  refine wseq ?_
  refine wseq ?_
  refine wregion ?_
  refine RL.val rfl rfl (by decide) (r_move_as (v := vs) (hF0 0)) ?_
  obtain ⟨A1, c2, hv3, hc4, hc5⟩ := hs.len
  refine RL.val rfl rfl (by decide) (r_eqlnil Try.underlying26 hv3 rfl) ?_
  refine RL.nil ?_
  refine wcond (b := A1.isNone) rfl (fun hb6 => ?_) (fun hb6 => ?_)
  · have hb6p := hb6
    exact absurd hb6 (by rw [hs.some_ hG (by assumption)]; simp)
  · have hb6p := hb6
    refine wskip ?_
    refine wseq ?_
    refine wregion ?_
    refine RL.run rfl rfl (by decide) (h_lit (vl := []) (cs := []) Try.underlying26 ty3 rfl (by decide) (by first | (simp [Instr.fill, Value.cells]; done) | rfl | kernel_rfl)) ?_
    rintro _ w7 ⟨b8, rfl, hs11, hb10, he9⟩
    have he9z := he9.size
    replace hs := hs.tr (Sm.ext he9)
    replace hE := Below.ext hE (by omega) he9
    have hb10l := hb10.lt
    refine RL.val rfl rfl (by decide) (r_move_as (v := vs) (hF0 0)) ?_
    have ho13 := Ow.made (lo := w.heap.size) (size := 1) (n := 0) hb10 (by omega) rfl (by simp [maxLen])
    refine RL.run rfl rfl (by decide) (h_append (v1 := (.slice (some ⟨b8, 0, none⟩) (0) (0))) (v2 := vs) (n := 0) (m := G.length) (l := []) (news := (G.map (gI .i64))) Try.underlying26 ty3 rfl (by decide) rfl rfl ho13 hs (by intro u hu; obtain ⟨z, -, rfl⟩ := List.mem_map.1 hu; rfl) (by simp only [maxLen]; omega) (by omega) (by omega)) ?_
    rintro v14 w12 ⟨ho15, hg16⟩
    have hg16z := hg16.size
    replace hE := ho13.below hg16 hE (by omega) (by omega)
    refine RL.val rfl rfl (by decide) (r_assign_as (v := v14) rfl) ?_
    refine RL.nil ?_
    refine wret ?_
    refine ⟨[v14], ⟨rfl, trivial⟩, ?_⟩
    obtain ⟨b, cap, e1, e2, e3, e4, e5⟩ := Ow.ar (g := gI .i64) (xs := G) (by simpa using ho15) (by simpa using hG)
    exact ⟨b, cap, by simpa [retv] using e1, by omega, by simpa using e3, e4, by simpa using e5, hE⟩

set_option maxHeartbeats 1000000 in
theorem curtail1 {D : Nat → TypeId → Prop} {bl : Nat} {vl : Value} {ls : List (Int × Int)} {w : World} {x y : Int} (hb : Bk w bl 22 [vl]) (hl : Ss loadC 2 D w vl ls) (hx : 0 ≤ x ∧ x < ls.length) (hy : 0 ≤ y ∧ y < ls.length) :
    Calls Try.prog 10 #[(.int .i64 (x)), (.int .i64 (y)), (.pointer (some ⟨bl, 0, none⟩))] w fun e w' => ∃ v, e = .returned v ∧ v = .int .i64 (cmpI (ls.getD x.toNat default).2 (ls.getD y.toNat default).2) ∧ Ext w w' := by
  have hE : Below w.heap.size w w := Below.refl _ _
  refine calls_of (n := 17) (rs := [.tmp 5]) Try.func10 rfl rfl rfl (Nat.le_of_ble_eq_true rfl) ?_
  refine wset fun F0 hF0 => ?_
  refine wseq ?_
  refine wregion ?_
  refine RL.val rfl rfl (by decide) (r_assign_as (v := (.int .i64 (0))) rfl) ?_
  refine RL.nil ?_
  refine wseq ?_
  refine wdraw mixed fun w1 he2 => ?_
  have he2z := he2.size
  replace hb := hb.ext he2
  replace hl := hl.tr (Sm.ext he2)
  replace hE := Below.ext hE (by omega) he2
  have hc3 := hb.cell (j := 0) (u := vl) rfl
  refine RA.rd 0 rfl (by kernel_rfl) rfl rfl rfl (by decide) (Ext.refl _) (fun u hu => r_load (v := vl) Try.underlying22 ag22 (hF0 2) (cell_ext hu hc3)) ?_
  refine RA.take 1 rfl (by kernel_rfl) rfl rfl (by decide) (fun _ => r_move_as (v := (.int .i64 (x))) (hF0 0)) ?_
  obtain ⟨b4, o5, c6, hv7, hc8⟩ := hl.ix (i := x) (x.toNat) (by omega) (by omega)
  refine RA.take 2 rfl (by kernel_rfl) rfl rfl (by decide) (fun _ => r_indexAddr (i := x) Try.underlying22 ty25 hv7 rfl (by omega) (by omega)) ?_
  refine RA.take 3 rfl (by kernel_rfl) rfl rfl (by decide) (fun _ => r_fieldAddr Try.underlying25 rfl ty3 rfl) ?_
  refine RA.rd 4 rfl (by kernel_rfl) rfl rfl rfl (by decide) (Ext.refl _) (fun u hu => r_load (v := (.int .i64 ((ls.getD (x.toNat) default).2))) Try.underlying3 ag3 rfl (cell_ext hu (hc8 1 _ rfl))) ?_
  have hc9 := hb.cell (j := 0) (u := vl) rfl
  refine RA.rd 5 rfl (by kernel_rfl) rfl rfl rfl (by decide) (Ext.refl _) (fun u hu => r_load (v := vl) Try.underlying22 ag22 (hF0 2) (cell_ext hu hc9)) ?_
  refine RA.take 6 rfl (by kernel_rfl) rfl rfl (by decide) (fun _ => r_move_as (v := (.int .i64 (y))) (hF0 1)) ?_
  obtain ⟨b10, o11, c12, hv13, hc14⟩ := hl.ix (i := y) (y.toNat) (by omega) (by omega)
  refine RA.take 7 rfl (by kernel_rfl) rfl rfl (by decide) (fun _ => r_indexAddr (i := y) Try.underlying22 ty25 hv13 rfl (by omega) (by omega)) ?_
  refine RA.take 8 rfl (by kernel_rfl) rfl rfl (by decide) (fun _ => r_fieldAddr Try.underlying25 rfl ty3 rfl) ?_
  refine RA.rd 9 rfl (by kernel_rfl) rfl rfl rfl (by decide) (Ext.refl _) (fun u hu => r_load (v := (.int .i64 ((ls.getD (y.toNat) default).2))) Try.underlying3 ag3 rfl (cell_ext hu (hc14 1 _ rfl))) ?_
  refine RA.all [10] (by kernel_rfl) rfl ?_
  refine RS.call rfl rfl rfl (by decide) (r_call (vl := [(.int .i64 ((ls.getD (x.toNat) default).2)), (.int .i64 ((ls.getD (y.toNat) default).2))]) ent11 rfl) (cmp_int _) ?_ RS.nil
  rintro _ _ ⟨rfl, rfl⟩
  refine ⟨.inr (.inr (Ext.refl _)), RA.more (S' := fun u => Ext _ u) (fun u hu => Ext.trans (Ext.refl _) hu) ?_⟩
  refine RA.take 11 rfl (by kernel_rfl) rfl rfl (by decide) (fun _ => r_assign_as (v := (.int .i64 (cmpI ((ls.getD (x.toNat) default).2) ((ls.getD (y.toNat) default).2)))) rfl) ?_
  refine RA.done (by kernel_rfl) ?_
  refine wret ?_
  refine ⟨[(.int .i64 (cmpI ((ls.getD (x.toNat) default).2) ((ls.getD (y.toNat) default).2)))], ⟨rfl, trivial⟩, ?_⟩
  exact ⟨rfl, hE⟩

set_option maxHeartbeats 1000000 in
theorem divide1 {D : Nat → TypeId → Prop} {b5 b7 b8 : Nat} {vl : Value} {ls : List (Int × Int)} {part amount : Int} {w : World} (h5 : Bk w b5 22 [vl]) (h7 : Bk w b7 3 [.int .i64 part]) (h8 : Bk w b8 3 [.int .i64 amount]) (hl : Ss loadC 2 D w vl ls) (hp : 0 ≤ part ∧ part ≤ 33554432) (ham : 0 < amount ∧ amount ≤ 33554432) (hls : ∀ p ∈ ls, 0 ≤ p.1 ∧ p.1 ≤ 1048576) {x : Int} (hx : 0 ≤ x ∧ x < ls.length) :
    Calls Try.prog 20 #[(.int .i64 (x)), (.pointer (some ⟨b7, 0, none⟩)), (.pointer (some ⟨b5, 0, none⟩)), (.pointer (some ⟨b8, 0, none⟩))] w fun e w' => ∃ v, e = .returned v ∧ v = .int .i64 (remF ls part amount x) ∧ Ext w w' := by
  have hE : Below w.heap.size w w := Below.refl _ _
  obtain ⟨q, hq⟩ : ∃ q, q = part * (ls.getD x.toNat default).1 := ⟨_, rfl⟩
  have hqr : 0 ≤ q ∧ q ≤ 35184372088832 := by rw [hq]; exact mul_bound hp (hls _ (Vm.getD_mem _ _ (by omega)))
  refine calls_of (n := 15) (rs := [.tmp 5]) Try.func20 rfl rfl rfl (Nat.le_of_ble_eq_true rfl) ?_
  refine wset fun F0 hF0 => ?_
  refine wseq ?_
  refine wregion ?_
  refine RL.val rfl rfl (by decide) (r_assign_as (v := (.int .i64 (0))) rfl) ?_
  refine RL.nil ?_
  refine wseq ?_
  refine wdraw mixed fun w1 he2 => ?_
  have he2z := he2.size
  replace h5 := h5.ext he2
  replace h7 := h7.ext he2
  replace h8 := h8.ext he2
  replace hl := hl.tr (Sm.ext he2)
  replace hE := Below.ext hE (by omega) he2
  have hc3 := h7.cell (j := 0) (u := (.int .i64 (part))) rfl
  refine RA.rd 0 rfl (by kernel_rfl) rfl rfl rfl (by decide) (Ext.refl _) (fun u hu => r_load (v := (.int .i64 (part))) Try.underlying3 ag3 (hF0 1) (cell_ext hu hc3)) ?_
  have hc4 := h5.cell (j := 0) (u := vl) rfl
  refine RA.rd 1 rfl (by kernel_rfl) rfl rfl rfl (by decide) (Ext.refl _) (fun u hu => r_load (v := vl) Try.underlying22 ag22 (hF0 2) (cell_ext hu hc4)) ?_
  refine RA.take 2 rfl (by kernel_rfl) rfl rfl (by decide) (fun _ => r_move_as (v := (.int .i64 (x))) (hF0 0)) ?_
  obtain ⟨b5, o6, c7, hv8, hc9⟩ := hl.ix (i := x) (x.toNat) (by omega) (by omega)
  refine RA.take 3 rfl (by kernel_rfl) rfl rfl (by decide) (fun _ => r_indexAddr (i := x) Try.underlying22 ty25 hv8 rfl (by omega) (by omega)) ?_
  refine RA.take 4 rfl (by kernel_rfl) rfl rfl (by decide) (fun _ => r_fieldAddr Try.underlying25 rfl ty3 rfl) ?_
  refine RA.rd 5 rfl (by kernel_rfl) rfl rfl rfl (by decide) (Ext.refl _) (fun u hu => r_load (v := (.int .i64 ((ls.getD (x.toNat) default).1))) Try.underlying3 ag3 rfl (cell_ext hu (hc9 0 _ rfl))) ?_
  refine RA.take 6 rfl (by kernel_rfl) rfl rfl (by decide) (fun _ => r_mul (k := .i64) (a := part) (b := (ls.getD (x.toNat) default).1) (c := q) rfl rfl (by rw [← hq]; exact wi64 (by omega))) ?_
  have hc10 := h8.cell (j := 0) (u := (.int .i64 (amount))) rfl
  refine RA.rd 7 rfl (by kernel_rfl) rfl rfl rfl (by decide) (Ext.refl _) (fun u hu => r_load (v := (.int .i64 (amount))) Try.underlying3 ag3 (hF0 3) (cell_ext hu hc10)) ?_
  refine RA.take 8 rfl (by kernel_rfl) rfl rfl (by decide) (fun _ => r_rem (k := .i64) (a := q) (b := amount) (c := q % amount) rfl rfl (by omega) (tmod_emod hqr.1)) ?_
  refine RA.take 9 rfl (by kernel_rfl) rfl rfl (by decide) (fun _ => r_assign_as (v := (.int .i64 (q % amount))) rfl) ?_
  refine RA.done (by kernel_rfl) ?_
  refine wret ?_
  refine ⟨[(.int .i64 (q % amount))], ⟨rfl, trivial⟩, ?_⟩
  exact ⟨int_eq (by rw [hq]; rfl), hE⟩

set_option maxHeartbeats 1000000 in
theorem divide2 {D : Nat → TypeId → Prop} {b5 b7 b8 : Nat} {vl : Value} {ls : List (Int × Int)} {part amount : Int} {w : World} (h5 : Bk w b5 22 [vl]) (h7 : Bk w b7 3 [.int .i64 part]) (h8 : Bk w b8 3 [.int .i64 amount]) (hl : Ss loadC 2 D w vl ls) (hp : 0 ≤ part ∧ part ≤ 33554432) (ham : 0 < amount ∧ amount ≤ 33554432) (hls : ∀ p ∈ ls, 0 ≤ p.1 ∧ p.1 ≤ 1048576) {b10 : Nat} (h10 : Bk w b10 49 [.func (.func 20) #[] #[.pointer (some ⟨b7, 0, none⟩), .pointer (some ⟨b5, 0, none⟩), .pointer (some ⟨b8, 0, none⟩)]]) {x y : Int} (hx : 0 ≤ x ∧ x < ls.length) (hy : 0 ≤ y ∧ y < ls.length) :
    Calls Try.prog 22 #[(.int .i64 (x)), (.int .i64 (y)), (.pointer (some ⟨b10, 0, none⟩))] w fun e w' => ∃ v, e = .returned v ∧ v = .int .i64 (cmpI (-(remF ls part amount x)) (-(remF ls part amount y))) ∧ Ext w w' := by
  have hE : Below w.heap.size w w := Below.refl _ _
  refine calls_of (n := 13) (rs := [.tmp 5]) Try.func22 rfl rfl rfl (Nat.le_of_ble_eq_true rfl) ?_
  refine wset fun F0 hF0 => ?_
  refine wseq ?_
  refine wregion ?_
  refine RL.val rfl rfl (by decide) (r_assign_as (v := (.int .i64 (0))) rfl) ?_
  refine RL.nil ?_
  refine wseq ?_
  refine wdraw mixed fun w1 he2 => ?_
  have he2z := he2.size
  replace h5 := h5.ext he2
  replace h7 := h7.ext he2
  replace h8 := h8.ext he2
  replace h10 := h10.ext he2
  replace hl := hl.tr (Sm.ext he2)
  replace hE := Below.ext hE (by omega) he2
  have hc3 := h10.cell (j := 0) (u := (.func (.func 20) #[] #[(.pointer (some ⟨b7, 0, none⟩)), (.pointer (some ⟨b5, 0, none⟩)), (.pointer (some ⟨b8, 0, none⟩))])) rfl
  refine RA.rd 0 rfl (by kernel_rfl) rfl rfl rfl (by decide) (Ext.refl _) (fun u hu => r_load (v := (.func (.func 20) #[] #[(.pointer (some ⟨b7, 0, none⟩)), (.pointer (some ⟨b5, 0, none⟩)), (.pointer (some ⟨b8, 0, none⟩))])) Try.underlying49 ag49 (hF0 2) (cell_ext hu hc3)) ?_
  refine RA.take 1 rfl (by kernel_rfl) rfl rfl (by decide) (fun _ => r_move_as (v := (.int .i64 (y))) (hF0 1)) ?_
  have hc4 := h10.cell (j := 0) (u := (.func (.func 20) #[] #[(.pointer (some ⟨b7, 0, none⟩)), (.pointer (some ⟨b5, 0, none⟩)), (.pointer (some ⟨b8, 0, none⟩))])) rfl
  refine RA.rd 3 rfl (by kernel_rfl) rfl rfl rfl (by decide) (Ext.refl _) (fun u hu => r_load (v := (.func (.func 20) #[] #[(.pointer (some ⟨b7, 0, none⟩)), (.pointer (some ⟨b5, 0, none⟩)), (.pointer (some ⟨b8, 0, none⟩))])) Try.underlying49 ag49 (hF0 2) (cell_ext hu hc4)) ?_
  refine RA.take 4 rfl (by kernel_rfl) rfl rfl (by decide) (fun _ => r_move_as (v := (.int .i64 (x))) (hF0 0)) ?_
  refine RA.all [2] (by kernel_rfl) rfl ?_
  refine RS.call rfl rfl rfl (by decide) (r_callv (vl := [(.int .i64 (y))]) (cl := [(.pointer (some ⟨b7, 0, none⟩)), (.pointer (some ⟨b5, 0, none⟩)), (.pointer (some ⟨b8, 0, none⟩))]) rfl ent20 rfl) (divide1 h5 h7 h8 hl hp ham hls (x := y) (by omega)) ?_ RS.nil
  rintro _ w5 ⟨rfl, he6⟩
  refine ⟨.inr (.inr he6), RA.more (S' := fun u => Ext _ u) (fun u hu => Ext.trans he6 hu) ?_⟩
  have he6z := he6.size
  replace h5 := h5.ext he6
  replace h7 := h7.ext he6
  replace h8 := h8.ext he6
  replace h10 := h10.ext he6
  replace hl := hl.tr (Sm.ext he6)
  replace hE := Below.ext hE (by omega) he6
  refine RA.all [5] (by kernel_rfl) rfl ?_
  refine RS.call rfl rfl rfl (by decide) (r_callv (vl := [(.int .i64 (x))]) (cl := [(.pointer (some ⟨b7, 0, none⟩)), (.pointer (some ⟨b5, 0, none⟩)), (.pointer (some ⟨b8, 0, none⟩))]) rfl ent20 rfl) (divide1 h5 h7 h8 hl hp ham hls (x := x) (by omega)) ?_ RS.nil
  rintro _ w7 ⟨rfl, he8⟩
  refine ⟨.inr (.inr he8), RA.more (S' := fun u => Ext _ u) (fun u hu => Ext.trans he8 hu) ?_⟩
  have he8z := he8.size
  replace h5 := h5.ext he8
  replace h7 := h7.ext he8
  replace h8 := h8.ext he8
  replace h10 := h10.ext he8
  replace hl := hl.tr (Sm.ext he8)
  replace hE := Below.ext hE (by omega) he8
  refine RA.all [6] (by kernel_rfl) rfl ?_
  refine RS.call rfl rfl rfl (by decide) (r_call (vl := [(.int .i64 (remF ls part amount y)), (.int .i64 (remF ls part amount x))]) ent23 rfl) (cmp_int64 _) ?_ RS.nil
  rintro _ _ ⟨rfl, rfl⟩
  refine ⟨.inr (.inr (Ext.refl _)), RA.more (S' := fun u => Ext _ u) (fun u hu => Ext.trans (Ext.refl _) hu) ?_⟩
  refine RA.take 7 rfl (by kernel_rfl) rfl rfl (by decide) (fun _ => r_assign_as (v := (.int .i64 (cmpI (remF ls part amount y) (remF ls part amount x)))) rfl) ?_
  refine RA.done (by kernel_rfl) ?_
  refine wret ?_
  refine ⟨[(.int .i64 (cmpI (remF ls part amount y) (remF ls part amount x)))], ⟨rfl, trivial⟩, ?_⟩
  exact ⟨int_eq (by unfold cmpI; (repeat split) <;> omega), hE⟩

end Go.Proofs.Ytppgppnkhpjlpaa
