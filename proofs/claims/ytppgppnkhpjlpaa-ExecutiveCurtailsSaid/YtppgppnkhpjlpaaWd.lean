/- Walks, printed by program. -/
import Derived.Test.YtppgppnkhpjlpaaWc
import Derived.Test.YtppgppnkhpjlpaaMdiv
namespace Go.Proofs.Ytppgppnkhpjlpaa
open Go.Vg Go.RowKit
set_option linter.unusedVariables false

open Go.Vm

theorem div_cmp {D : Nat → TypeId → Prop} {b5 b7 b8 b10 b : Nat} {vl : Value} {ls : List (Int × Int)} {part amount : Int} {w : World} (h5 : Bk w b5 22 [vl]) (h7 : Bk w b7 3 [.int .i64 part]) (h8 : Bk w b8 3 [.int .i64 amount]) (hl : Ss loadC 2 D w vl ls) (hp : 0 ≤ part ∧ part ≤ 33554432) (ham : 0 < amount ∧ amount ≤ 33554432) (hls : ∀ p ∈ ls, 0 ≤ p.1 ∧ p.1 ≤ 1048576)
    (h10 : Bk w b10 49 [.func (.func 20) #[] #[.pointer (some ⟨b7, 0, none⟩), .pointer (some ⟨b5, 0, none⟩), .pointer (some ⟨b8, 0, none⟩)]]) (n5 : b5 ≠ b) (n7 : b7 ≠ b) (n8 : b8 ≠ b) (n10 : b10 ≠ b) {xs : List Int} {n : Nat} (har : Ar (gI .i64) w b 3 0 xs n) (hD : ¬ D b 3) :
    CmpOk Try.prog 22 [.pointer (some ⟨b10, 0, none⟩)] (gI .i64) (fun i => -(remF ls part amount i)) (fun i => 0 ≤ i ∧ i < (ls.length : Int)) b w := fun u hu x y hx hy =>
  divide2 (h5.exc hu n5) (h7.exc hu n7) (h8.exc hu n8) (hl.tr (har.sm hu hD)) hp ham hls (h10.exc hu n10) hx hy

set_option maxHeartbeats 1000000 in
theorem divide_spec {D Dg : Nat → TypeId → Prop} {bc nc cap Bd : Nat} {vl vg : Value} {ls : List (Int × Int)} {G C : List Int} {part amount : Int} {w : World} (hl0 : Ss loadC 2 D w vl ls) (hg0 : Sg (gI .i64) Dg w vg G) (hc : Ar (gI .i64) w bc 3 0 C nc) (hDl : ¬ D bc 3) (hDg : ¬ Dg bc 3) (hp : 0 ≤ part ∧ part ≤ 33554432) (ham0 : 0 ≤ amount ∧ amount ≤ 33554432) (hls : ∀ p ∈ ls, 0 ≤ p.1 ∧ p.1 ≤ 1048576) (hG0 : 0 < G.length) (hGl : G.length ≤ 32) (hGr : ∀ i ∈ G, 0 ≤ i ∧ i < (ls.length : Int)) (hnc : nc = ls.length) (hsum : amount = sumA ls G) (hpa : part ≤ amount) (hCb : ∀ x ∈ C, 0 ≤ x ∧ x ≤ (Bd : Int)) (hBd : 35184372088832 ≤ Bd ∧ Bd ≤ 2251799813685248) :
    Calls Try.prog 12 #[vl, vg, (.int .i64 (part)), (.int .i64 (amount)), (.slice (some ⟨bc, 0, none⟩) (nc) (cap))] w fun e w' => ∃ v, e = .returned v ∧ v = .tuple #[] ∧ (∃ C', Ar (gI .i64) w' bc 3 0 C' nc ∧ DivSpec ls G part amount C C' ∧ ∀ x ∈ C', 0 ≤ x ∧ x ≤ ((Bd + 32 : Nat) : Int)) ∧ Exc bc w w' := by
  have hE : Exc bc w w := Exc.of_ext (Ext.refl _)
  have hl := hl0.old
  have hg := hg0.old
  have hcl := hc.lt
  have hcn := hc.2
  clear hl0 hg0
  refine calls_of (n := 66) (rs := []) Try.func12 rfl rfl rfl (Nat.le_of_ble_eq_true rfl) ?_
  refine wset fun F0 hF0 => ?_
  refine wseq ?_
  refine wregion ?_
  refine RL.run rfl rfl (by decide) (h_box (vv := vl) (cs := [vl]) (hF0 0) (cells_one hl.one)) ?_
  rintro _ w1 ⟨b2, rfl, hs5, hb4, he3⟩
  have he3z := he3.size
  replace hl := hl.tr (Sm.ext he3)
  replace hg := hg.tr (Sm.ext he3)
  replace hc := hc.ext he3
  replace hE := hE.trans (Exc.of_ext he3)
  have hb4l := hb4.lt
  refine RL.run rfl rfl (by decide) (h_box (vv := (.int .i64 (part))) (cs := [(.int .i64 (part))]) (hF0 2) rfl) ?_
  rintro _ w6 ⟨b7, rfl, hs10, hb9, he8⟩
  have he8z := he8.size
  replace hl := hl.tr (Sm.ext he8)
  replace hg := hg.tr (Sm.ext he8)
  replace hc := hc.ext he8
  replace hE := hE.trans (Exc.of_ext he8)
  replace hb4 := hb4.ext he8
  have hb9l := hb9.lt
  refine RL.run rfl rfl (by decide) (h_box (vv := (.int .i64 (amount))) (cs := [(.int .i64 (amount))]) (hF0 3) rfl) ?_
  rintro _ w11 ⟨b12, rfl, hs15, hb14, he13⟩
  have he13z := he13.size
  replace hl := hl.tr (Sm.ext he13)
  replace hg := hg.tr (Sm.ext he13)
  replace hc := hc.ext he13
  replace hE := hE.trans (Exc.of_ext he13)
  replace hb4 := hb4.ext he13
  replace hb9 := hb9.ext he13
  have hb14l := hb14.lt
  refine RL.nil ?_
  refine wseq ?_
  refine wseq ?_
  refine wregion ?_
  have hc16 := hb14.cell (j := 0) (u := (.int .i64 (amount))) rfl
  refine RL.val rfl rfl (by decide) (r_load (v := (.int .i64 (amount))) Try.underlying3 ag3 rfl hc16) ?_
  refine RL.val rfl rfl (by decide) (r_eql (k := .i64) (a := amount) (b := 0) rfl rfl) ?_
  refine RL.nil ?_
  refine wcond (b := decide (amount = 0)) rfl (fun hb17 => ?_) (fun hb17 => ?_)
  · have hb17p := hb17
    replace hb17p := of_decide_eq_true hb17p
    refine wret ?_
    refine ⟨[], trivial, ?_⟩
    exact ⟨rfl, ⟨C, hc, .inl ⟨by omega, rfl⟩, fun x hx => by have := hCb x hx; omega⟩, hE⟩
  · have hb17p := hb17
    replace hb17p := of_decide_eq_false hb17p
    have ham : 0 < amount ∧ amount ≤ 33554432 := by omega
    refine wskip ?_
    refine wseq ?_
    refine wregion ?_
    refine RL.val rfl rfl (by decide) (r_makeFunc (vl := [(.pointer (some ⟨b7, 0, none⟩)), (.pointer (some ⟨b2, 0, none⟩)), (.pointer (some ⟨b12, 0, none⟩))]) rfl) ?_
    refine RL.run rfl rfl (by decide) (h_alloc (cs := [(.nilFunc)]) ty49 rfl) ?_
    rintro _ w18 ⟨b19, rfl, hs22, hb21, he20⟩
    have he20z := he20.size
    replace hl := hl.tr (Sm.ext he20)
    replace hg := hg.tr (Sm.ext he20)
    replace hc := hc.ext he20
    replace hE := hE.trans (Exc.of_ext he20)
    replace hb4 := hb4.ext he20
    replace hb9 := hb9.ext he20
    replace hb14 := hb14.ext he20
    have hb21l := hb21.lt
    refine RL.runs rfl rfl (h_store (vv := (.func (.func 20) #[] #[(.pointer (some ⟨b7, 0, none⟩)), (.pointer (some ⟨b2, 0, none⟩)), (.pointer (some ⟨b12, 0, none⟩))])) (cs := [(.func (.func 20) #[] #[(.pointer (some ⟨b7, 0, none⟩)), (.pointer (some ⟨b2, 0, none⟩)), (.pointer (some ⟨b12, 0, none⟩))])]) (o := 0) ty49 rfl rfl rfl rfl (one_cons rfl one_nil) hb21 (Nat.le_of_ble_eq_true rfl)) ?_
    rintro w23 ⟨hn24, hx25, hz26⟩
    have hx25z := hx25.size
    replace hl := hl.tr (hb21.sm hx25 (by first | (exact fun h => hDl h.1) | (intro h; have := h.2; omega)))
    replace hg := hg.tr (hb21.sm hx25 (by first | (exact fun h => hDg h.1) | (intro h; have := h.2; omega)))
    replace hc := hc.exc hx25 (by omega)
    replace hE := Exc.own hE hx25 (by omega)
    replace hb4 := hb4.exc hx25 (by omega)
    replace hb9 := hb9.exc hx25 (by omega)
    replace hb14 := hb14.exc hx25 (by omega)
    replace hb21 : Bk w23 b19 49 [(.func (.func 20) #[] #[(.pointer (some ⟨b7, 0, none⟩)), (.pointer (some ⟨b2, 0, none⟩)), (.pointer (some ⟨b12, 0, none⟩))])] := hn24
    refine RL.nil ?_
    refine wseq ?_
    refine wregion ?_
    have hc27 := hb9.cell (j := 0) (u := (.int .i64 (part))) rfl
    refine RL.val rfl rfl (by decide) (r_load (v := (.int .i64 (part))) Try.underlying3 ag3 rfl hc27) ?_
    refine RL.val rfl rfl (by decide) (r_assign_as (v := (.int .i64 (part))) rfl) ?_
    refine RL.nil ?_
    refine wseq ?_
    refine wseq ?_
    refine wregion ?_
    refine RL.val rfl rfl (by decide) (r_move_as (v := vg) (hF0 1)) ?_
    obtain ⟨A28, c29, hv30, hc31, hc32⟩ := hg.len
    refine RL.val rfl rfl (by decide) (r_len Try.underlying26 hv30) ?_
    refine RL.val rfl rfl (by decide) (r_move_as (v := (.int .i64 (0))) rfl) ?_
    refine RL.nil ?_
    refine wblock ?_
    refine wset fun F33 hF34 => ?_
    refine wloop (σ := Nat) (fun (k : Nat) fl wl => Off [11, 13, 23, 24, 25, 26, 27, 28, 29, 30, 31, 32, 33, 34, 35, 36, 37, 38, 39, 40, 41, 42, 43, 44, 45] F33 fl ∧ fl 23 = (.int .i64 (((k : Nat) : Int))) ∧ fl 11 = (.int .i64 (part - sumQ ls part amount (G.take k))) ∧ (k ≤ G.length) ∧ (0 ≤ sumQ ls part amount (G.take k) ∧ sumQ ls part amount (G.take k) ≤ k * 35184372088832) ∧ (Bk wl b2 22 [vl]) ∧ (Bk wl b7 3 [(.int .i64 (part))]) ∧ (Bk wl b12 3 [(.int .i64 (amount))]) ∧ (Bk wl b19 49 [(.func (.func 20) #[] #[(.pointer (some ⟨b7, 0, none⟩)), (.pointer (some ⟨b2, 0, none⟩)), (.pointer (some ⟨b12, 0, none⟩))])]) ∧ (Ss loadC 2 (fun b T => D b T ∧ b < w.heap.size) wl vl ls) ∧ (Sg (gI .i64) (fun b T => Dg b T ∧ b < w.heap.size) wl vg G) ∧ (Ar (gI .i64) wl bc 3 0 (sets C (G.take k) (qF ls part amount)) nc) ∧ (Exc bc w wl) ∧ (w.heap.size + 4 ≤ wl.heap.size)) (fun (k : Nat) => G.length - k) (0) ?_ ?_
    · exact ⟨Off.refl _ _, (hF34 23).trans (rfl), (hF34 11).trans ((int_eq (by simp [sumQ]))), Nat.zero_le _, (by simp [sumQ]), hb4, hb9, hb14, hb21, hl, hg, (by simpa [sets] using hc), hE, (by omega)⟩
    · clear hl hg hc hE hb4 hb9 hb14 hb21
      rintro k f35 w36 ⟨hoff37, hs38, hs39, hk, hsq, hb4, hb9, hb14, hb21, hl, hg, hc, hE, hwz⟩
      refine wseq ?_
      refine wregion ?_
      refine RL.val rfl rfl (by decide) (r_lss (k := .i64) (a := ((k : Nat) : Int)) (b := ((G.length : Nat) : Int)) hs38 ((hoff37 22 rfl).trans (hF34 22))) ?_
      refine RL.nil ?_
      refine wseq ?_
      refine wcond (b := decide (((k : Nat) : Int) < ((G.length : Nat) : Int))) rfl (fun hb40 => ?_) (fun hb40 => ?_)
      · have hb40p := hb40
        replace hb40p := of_decide_eq_true hb40p
        refine wskip ?_
        refine wseq ?_
        refine wblock ?_
        refine wseq ?_
        have hkl : k < G.length := by omega
        obtain ⟨g, hgk⟩ : ∃ g, g = G.getD k default := ⟨_, rfl⟩
        have hgr := hGr g (by rw [hgk]; exact getD_mem _ _ hkl)
        obtain ⟨qq, hqq⟩ : ∃ q, q = part * (ls.getD g.toNat default).1 := ⟨_, rfl⟩
        have hqr : 0 ≤ qq ∧ qq ≤ 35184372088832 := by rw [hqq]; exact mul_bound hp (hls _ (getD_mem _ _ (by omega)))
        have hqf : 0 ≤ qF ls part amount g ∧ qF ls part amount g ≤ 35184372088832 := by unfold qF; rw [← hqq]; exact div_bound hqr ham
        refine wregion ?_
        obtain ⟨b41, o42, c43, hv44, hc45⟩ := hg.ix (i := ((k : Nat) : Int)) (k) (by omega) (by omega)
        rw [show G.getD (k) default = g from hgk.symm] at hc45
        refine RL.val rfl rfl (by decide) (r_indexAddr (i := ((k : Nat) : Int)) Try.underlying26 ty3 ((((hoff37 21 rfl).trans (hF34 21))).trans hv44) hs38 (by omega) (by omega)) ?_
        refine RL.val rfl rfl (by decide) (r_load (v := (.int .i64 (g))) Try.underlying3 ag3 rfl hc45) ?_
        refine RL.val rfl rfl (by decide) (r_assign_as (v := (.int .i64 (g))) rfl) ?_
        refine RL.nil ?_
        refine wseq ?_
        refine wdraw mixed fun w46 he47 => ?_
        have he47z := he47.size
        replace hl := hl.tr (Sm.ext he47)
        replace hg := hg.tr (Sm.ext he47)
        replace hc := hc.ext he47
        replace hE := hE.trans (Exc.of_ext he47)
        replace hb4 := hb4.ext he47
        replace hb9 := hb9.ext he47
        replace hb14 := hb14.ext he47
        replace hb21 := hb21.ext he47
        refine RA.take 0 rfl (by kernel_rfl) rfl rfl (by decide) (fun _ => r_move_as (v := (.slice (some ⟨bc, 0, none⟩) (nc) (cap))) ((hoff37 4 rfl).trans ((hF34 4).trans (hF0 4)))) ?_
        refine RA.take 1 rfl (by kernel_rfl) rfl rfl (by decide) (fun _ => r_move_as (v := (.int .i64 (g))) rfl) ?_
        have hc48 := hb9.cell (j := 0) (u := (.int .i64 (part))) rfl
        refine RA.rd 2 rfl (by kernel_rfl) rfl rfl rfl (by decide) (Ext.refl _) (fun u hu => r_load (v := (.int .i64 (part))) Try.underlying3 ag3 ((hoff37 7 rfl).trans (hF34 7)) (cell_ext hu hc48)) ?_
        have hc49 := hb4.cell (j := 0) (u := vl) rfl
        refine RA.rd 3 rfl (by kernel_rfl) rfl rfl rfl (by decide) (Ext.refl _) (fun u hu => r_load (v := vl) Try.underlying22 ag22 ((hoff37 5 rfl).trans (hF34 5)) (cell_ext hu hc49)) ?_
        refine RA.take 4 rfl (by kernel_rfl) rfl rfl (by decide) (fun _ => r_move_as (v := (.int .i64 (g))) rfl) ?_
        obtain ⟨b50, o51, c52, hv53, hc54⟩ := hl.ix (i := g) (g.toNat) (by omega) (by omega)
        refine RA.take 5 rfl (by kernel_rfl) rfl rfl (by decide) (fun _ => r_indexAddr (i := g) Try.underlying22 ty25 hv53 rfl (by omega) (by omega)) ?_
        refine RA.take 6 rfl (by kernel_rfl) rfl rfl (by decide) (fun _ => r_fieldAddr Try.underlying25 rfl ty3 rfl) ?_
        refine RA.rd 7 rfl (by kernel_rfl) rfl rfl rfl (by decide) (Ext.refl _) (fun u hu => r_load (v := (.int .i64 ((ls.getD (g.toNat) default).1))) Try.underlying3 ag3 rfl (cell_ext hu (hc54 0 _ rfl))) ?_
        refine RA.take 8 rfl (by kernel_rfl) rfl rfl (by decide) (fun _ => r_mul (k := .i64) (a := part) (b := (ls.getD (g.toNat) default).1) (c := qq) rfl rfl (by rw [← hqq]; exact wi64 (by omega))) ?_
        have hc55 := hb14.cell (j := 0) (u := (.int .i64 (amount))) rfl
        refine RA.rd 9 rfl (by kernel_rfl) rfl rfl rfl (by decide) (Ext.refl _) (fun u hu => r_load (v := (.int .i64 (amount))) Try.underlying3 ag3 ((hoff37 8 rfl).trans (hF34 8)) (cell_ext hu hc55)) ?_
        refine RA.take 10 rfl (by kernel_rfl) rfl rfl (by decide) (fun _ => r_quo (k := .i64) (a := qq) (b := amount) (c := qF ls part amount g) rfl rfl (by omega) (by rw [Int.tdiv_eq_ediv_of_nonneg hqr.1, hqq]; exact wi64 (by have := hqf; unfold qF at this; omega))) ?_
        refine RA.take 11 rfl (by kernel_rfl) rfl rfl (by decide) (fun _ => r_indexAddr (i := g) Try.underlying26 ty3 rfl rfl (by omega) (by omega)) ?_
        refine RA.all [12] (by kernel_rfl) rfl ?_
        refine RS.runs rfl rfl rfl (h_set (g := (gI .i64)) (vv := (.int .i64 (qF ls part amount g))) (u := qF ls part amount g) (i := g) ty3 rfl rfl rfl rfl rfl hc (g.toNat) (by omega) (by omega)) ?_ RS.nil
        rintro w56 ⟨ha57, hx58⟩
        refine ⟨.inr (.inl (by kernel_rfl)), ?_⟩
        have hx58z := hx58.size
        replace hl := hl.tr (hc.sm hx58 (by first | (exact fun h => hDl h.1) | (intro h; have := h.2; omega)))
        replace hg := hg.tr (hc.sm hx58 (by first | (exact fun h => hDg h.1) | (intro h; have := h.2; omega)))
        replace hE := hE.trans hx58
        replace hb4 := hb4.exc hx58 (by omega)
        replace hb9 := hb9.exc hx58 (by omega)
        replace hb14 := hb14.exc hx58 (by omega)
        replace hb21 := hb21.exc hx58 (by omega)
        replace hc := ha57
        refine RA.done (by kernel_rfl) ?_
        refine wregion ?_
        refine RL.val rfl rfl (by decide) (r_move_as (v := (.int .i64 (part - sumQ ls part amount (G.take k)))) hs39) ?_
        refine RL.val rfl rfl (by decide) (r_move_as (v := (.slice (some ⟨bc, 0, none⟩) (nc) (cap))) ((hoff37 4 rfl).trans ((hF34 4).trans (hF0 4)))) ?_
        refine RL.val rfl rfl (by decide) (r_move_as (v := (.int .i64 (g))) rfl) ?_
        refine RL.val rfl rfl (by decide) (r_indexAddr (i := g) Try.underlying26 ty3 rfl rfl (by omega) (by omega)) ?_
        have hc59 := hc.cell (i := g) (g.toNat) (by omega) (by omega)
        rw [show ((sets C (G.take k) (qF ls part amount)).set (g.toNat) (qF ls part amount g)).getD (g.toNat) default = qF ls part amount g from (getD_set_self _ _ _ (by have := hc.2; simp at this; omega))] at hc59
        refine RL.val rfl rfl (by decide) (r_load (v := (.int .i64 (qF ls part amount g))) Try.underlying3 ag3 rfl hc59) ?_
        refine RL.val rfl rfl (by decide) (r_sub (k := .i64) (a := part - sumQ ls part amount (G.take k)) (b := qF ls part amount g) (c := (part - sumQ ls part amount (G.take k)) - (qF ls part amount g)) rfl rfl (wi64 (by omega))) ?_
        refine RL.val rfl rfl (by decide) (r_assign_as (v := (.int .i64 ((part - sumQ ls part amount (G.take k)) - (qF ls part amount g)))) rfl) ?_
        refine RL.nil ?_
        refine wregion ?_
        refine RL.val rfl rfl (by decide) (r_add (k := .i64) (a := ((k : Nat) : Int)) (b := 1) (c := ((k : Nat) : Int) + 1) hs38 rfl (wi64 (by omega))) ?_
        refine RL.val rfl rfl (by decide) (r_move_as (v := (.int .i64 (((k : Nat) : Int) + 1))) rfl) ?_
        refine RL.nil ?_
        refine ⟨(k + 1), ⟨?_, ?_, ?_, ?_, ?_, ?_, ?_, ?_, ?_, ?_, ?_, ?_, ?_, ?_⟩, ?_⟩
        · exact (by repeat (first | exact hoff37 | refine Off.st ?_ (by decide) _))
        · first | rfl | exact int_eq (by omega) | exact bool_eq (by simp)
        · exact int_eq (by rw [take_snoc G k hkl, sumQ_snoc, ← hgk]; omega)
        · omega
        · rw [take_snoc G k hkl, sumQ_snoc, ← hgk]; omega
        · exact hb4
        · exact hb9
        · exact hb14
        · exact hb21
        · exact hl
        · exact hg
        · rw [take_snoc G k hkl, sets_snoc, ← hgk]; exact hc
        · exact hE
        · omega
        · (try dsimp only)
          omega
      · have hb40p := hb40
        replace hb40p := of_decide_eq_false hb40p
        refine wexit ?_
        refine wseq ?_
        have hkG : G.take k = G := List.take_of_length_le (by omega)
        obtain ⟨M, hM, hMG⟩ := div_missing hGr hls ham hp hsum hpa
        refine wregion ?_
        refine RL.val rfl rfl (by decide) (r_move_as (v := vg) ((hoff37 1 rfl).trans ((hF34 1).trans (hF0 1)))) ?_
        have hb4q := hb4.lt
        have hb9q := hb9.lt
        have hb14q := hb14.lt
        have hb21q := hb21.lt
        have hcq := hc.lt
        refine RL.call rfl rfl (by decide) (r_call (vl := [vg]) ent21 rfl) (clone_int hg hG0 (by omega)) ?_
        rintro _ w60 ⟨bo, capo, rfl, hbo, hcapo1, hcapo2, har, hecl⟩
        have heclz := hecl.size
        replace hl := hl.tr (Sm.ext hecl)
        replace hg := hg.tr (Sm.ext hecl)
        replace hc := hc.ext hecl
        replace hE := hE.trans (Exc.of_ext hecl)
        replace hb4 := hb4.ext hecl
        replace hb9 := hb9.ext hecl
        replace hb14 := hb14.ext hecl
        replace hb21 := hb21.ext hecl
        have harl := har.lt
        refine RL.val rfl rfl (by decide) (r_assign_as (v := (.slice (some ⟨bo, 0, none⟩) (G.length) (capo))) rfl) ?_
        refine RL.nil ?_
        refine wseq ?_
        refine wregion ?_
        refine RL.val rfl rfl (by decide) (r_move_as (v := (.slice (some ⟨bo, 0, none⟩) (G.length) (capo))) rfl) ?_
        refine RL.val rfl rfl (by decide) (r_makeFunc (vl := [(.pointer (some ⟨b19, 0, none⟩))]) (mpc ((hoff37 10 rfl).trans (hF34 10)) mpn)) ?_
        refine RL.call rfl rfl (by decide) (r_call (vl := [(.slice (some ⟨bo, 0, none⟩) (G.length) (capo)), (.func (.func 22) #[] #[(.pointer (some ⟨b19, 0, none⟩))])]) ent9 rfl) (sortStable_int (key := (fun i => -(remF ls part amount i))) (ok := (fun i => 0 ≤ i ∧ i < (ls.length : Int))) ent22 (div_cmp hb4 hb9 hb14 hl hp ham hls hb21 (by omega) (by omega) (by omega) (by omega) har (fun h => by have := h.2; omega)) (Exc.of_ext (Ext.refl _)) har (by omega) (hGr)) ?_
        rintro _ w61 ⟨rfl, ⟨Pm, har2, hPs, hPe⟩, hxs⟩
        have hxsz := hxs.size
        replace hl := hl.tr (har.sm hxs (by first | (exact fun h => hDl h.1) | (intro h; have := h.2; omega)))
        replace hg := hg.tr (har.sm hxs (by first | (exact fun h => hDg h.1) | (intro h; have := h.2; omega)))
        replace hc := hc.exc hxs (by omega)
        replace hE := Exc.own hE hxs (by omega)
        replace hb4 := hb4.exc hxs (by omega)
        replace hb9 := hb9.exc hxs (by omega)
        replace hb14 := hb14.exc hxs (by omega)
        replace hb21 := hb21.exc hxs (by omega)
        replace har := har2
        refine RL.nil ?_
        refine wseq ?_
        refine wregion ?_
        refine RL.val rfl rfl (by decide) (r_move_as (v := (.slice (some ⟨bo, 0, none⟩) (G.length) (capo))) rfl) ?_
        refine RL.val rfl rfl (by decide) (r_move_as (v := (.int .i64 (part - sumQ ls part amount (G.take k)))) hs39) ?_
        refine RL.val rfl rfl (by decide) (r_sh (h := part - sumQ ls part amount (G.take k)) (kk := M) Try.underlying26 ty3 rfl rfl (by rw [hkG] at *; omega) (by rw [hkG] at *; omega)) ?_
        refine RL.val rfl rfl (by decide) (r_len Try.underlying26 rfl) ?_
        refine RL.val rfl rfl (by decide) (r_move_as (v := (.int .i64 (0))) rfl) ?_
        refine RL.nil ?_
        refine wblock ?_
        refine wset fun F63 hF64 => ?_
        refine wloop (σ := Nat) (fun (j : Nat) fl wl => Off [16, 55, 56, 57, 58, 59, 60, 61, 62, 63, 64, 65] F63 fl ∧ fl 55 = (.int .i64 (((j : Nat) : Int))) ∧ (j ≤ M) ∧ (Ar (gI .i64) wl bo 3 0 Pm G.length) ∧ (Ar (gI .i64) wl bc 3 0 (incs (sets C (G.take k) (qF ls part amount)) (Pm.take j)) nc) ∧ (Exc bc w wl)) (fun (j : Nat) => M - j) (0) ?_ ?_
        · exact ⟨Off.refl _ _, (hF64 55).trans (rfl), Nat.zero_le _, har, (by simpa [incs] using hc), hE⟩
        · clear hl hg hc hE hb4 hb9 hb14 hb21 har
          rintro j f65 w66 ⟨hoff67, hs68, hjM, har, hc, hE⟩
          refine wseq ?_
          refine wregion ?_
          refine RL.val rfl rfl (by decide) (r_lss (k := .i64) (a := ((j : Nat) : Int)) (b := ((M : Nat) : Int)) hs68 ((hoff67 54 rfl).trans (hF64 54))) ?_
          refine RL.nil ?_
          refine wseq ?_
          refine wcond (b := decide (((j : Nat) : Int) < ((M : Nat) : Int))) rfl (fun hb69 => ?_) (fun hb69 => ?_)
          · have hb69p := hb69
            replace hb69p := of_decide_eq_true hb69p
            refine wskip ?_
            refine wseq ?_
            refine wblock ?_
            refine wseq ?_
            have hPl : Pm.length = G.length := hPe.length.symm
            have hjl : j < Pm.length := by omega
            obtain ⟨p, hpj⟩ : ∃ p, p = Pm.getD j default := ⟨_, rfl⟩
            have hpr := hGr p (hPe.symm.mem (by rw [hpj]; exact getD_mem _ _ hjl))
            obtain ⟨cp, hcp⟩ : ∃ c, c = (incs (sets C (G.take k) (qF ls part amount)) (Pm.take j)).getD p.toNat default := ⟨_, rfl⟩
            have hcpb : 0 ≤ cp ∧ cp ≤ ((Bd + 32 : Nat) : Int) := by rw [hcp]; exact incs_bd (hCb := sets_bd hCb (fun i hi => q_bd hls hp ham (hGr i (List.mem_of_mem_take hi))) hBd.1) (by simp; omega) (by rw [hc.2]; omega)
            refine wregion ?_
            refine RL.val rfl rfl (by decide) (r_indexAddr (i := ((j : Nat) : Int)) Try.underlying26 ty3 ((hoff67 53 rfl).trans (hF64 53)) hs68 (by omega) (by omega)) ?_
            have hc70 := har.cell (i := ((j : Nat) : Int)) (j) (by omega) (by omega)
            rw [show Pm.getD (j) default = p from hpj.symm] at hc70
            refine RL.val rfl rfl (by decide) (r_load (v := (.int .i64 (p))) Try.underlying3 ag3 rfl hc70) ?_
            refine RL.val rfl rfl (by decide) (r_assign_as (v := (.int .i64 (p))) rfl) ?_
            refine RL.nil ?_
            refine wregion ?_
            refine RL.val rfl rfl (by decide) (r_move_as (v := (.slice (some ⟨bc, 0, none⟩) (nc) (cap))) ((hoff67 4 rfl).trans ((hF64 4).trans ((hoff37 4 rfl).trans ((hF34 4).trans (hF0 4)))))) ?_
            refine RL.val rfl rfl (by decide) (r_move_as (v := (.int .i64 (p))) rfl) ?_
            refine RL.val rfl rfl (by decide) (r_indexAddr (i := p) Try.underlying26 ty3 rfl rfl (by omega) (by omega)) ?_
            have hc71 := hc.cell (i := p) (p.toNat) (by omega) (by omega)
            rw [show (incs (sets C (G.take k) (qF ls part amount)) (Pm.take j)).getD (p.toNat) default = cp from hcp.symm] at hc71
            refine RL.val rfl rfl (by decide) (r_load (v := (.int .i64 (cp))) Try.underlying3 ag3 rfl hc71) ?_
            refine RL.val rfl rfl (by decide) (r_add (k := .i64) (a := cp) (b := 1) (c := cp + 1) rfl rfl (wi64 (by omega))) ?_
            refine RL.val rfl rfl (by decide) (r_indexAddr (i := p) Try.underlying26 ty3 rfl rfl (by omega) (by omega)) ?_
            refine RL.runs rfl rfl (h_set (g := (gI .i64)) (vv := (.int .i64 (cp + 1))) (u := (incs (sets C (G.take k) (qF ls part amount)) (Pm.take j)).getD p.toNat default + 1) (i := p) ty3 rfl rfl (int_eq (by rw [hcp])) rfl rfl hc (p.toNat) (by omega) (by omega)) ?_
            rintro w72 ⟨ha73, hx74⟩
            have hx74z := hx74.size
            replace hE := hE.trans hx74
            replace har := har.exc hx74 (by omega)
            replace hc := ha73
            refine RL.nil ?_
            refine wregion ?_
            refine RL.val rfl rfl (by decide) (r_add (k := .i64) (a := ((j : Nat) : Int)) (b := 1) (c := ((j : Nat) : Int) + 1) hs68 rfl (wi64 (by omega))) ?_
            refine RL.val rfl rfl (by decide) (r_move_as (v := (.int .i64 (((j : Nat) : Int) + 1))) rfl) ?_
            refine RL.nil ?_
            refine ⟨(j + 1), ⟨?_, ?_, ?_, ?_, ?_, ?_⟩, ?_⟩
            · exact (by repeat (first | exact hoff67 | refine Off.st ?_ (by decide) _ | refine Off.via hoff37 (by decide) ?_ | refine Off.eq hF34 ?_))
            · first | rfl | exact int_eq (by omega) | exact bool_eq (by simp)
            · omega
            · exact har
            · rw [take_snoc Pm j hjl, incs_snoc, ← hpj]; exact hc
            · exact hE
            · (try dsimp only)
              omega
          · have hb69p := hb69
            replace hb69p := of_decide_eq_false hb69p
            refine wexit ?_
            refine ⟨[], trivial, ?_⟩
            have hjM2 : j = M := by omega
            subst hjM2
            rw [hkG] at hc
            exact ⟨rfl, ⟨_, hc, .inr ⟨by omega, Pm, hPs, hPe, by rw [show (part - sumQ ls part amount G).toNat = j by omega]⟩, fun x hx => incs_all (hCb := sets_bd hCb (fun i hi => q_bd hls hp ham (hGr i hi)) hBd.1) (by simp; omega) hx⟩, hE⟩

end Go.Proofs.Ytppgppnkhpjlpaa
