/- Walks, printed by program. -/
import Derived.Test.YtppgppnkhpjlpaaRj
namespace Go.Proofs.Ytppgppnkhpjlpaa
open Go.Vg Go.RowKit
set_option linter.unusedVariables false

open Go.Vm

theorem cmpQ_pos {a b : Rat} : 0 < cmpQ a b ↔ b < a := by
  unfold cmpQ
  by_cases h1 : a < b
  · rw [if_pos h1]; constructor
    · intro h; omega
    · intro h; grind
  · rw [if_neg h1]
    by_cases h2 : b < a
    · rw [if_pos h2]; simp [h2]
    · rw [if_neg h2]; simp [h2]
theorem cmpQ_self {a b : Rat} (h : a = b) : cmpQ a b = 0 := by
  subst h
  unfold cmpQ
  rw [if_neg Rat.lt_irrefl, if_neg Rat.lt_irrefl]
theorem par_at_n {qs : List Rat} {M : List Nat} {k : Nat} (hm : k ∉ M) (hk : k < qs.length) : (byR (parF qs M) qs.length).getD k default = fr (qs.getD k default) := by
  rw [byR_at hk]; unfold parF; rw [if_neg hm]
theorem best_in {P : Nat → Rat} {M : List Nat} {k : Nat} {b : Int} (h : Best P M k b) (hb : ¬ b < 0) : b = ((b.toNat : Nat) : Int) ∧ b.toNat < k ∧ b.toNat ∉ M := by
  rcases h with ⟨h1, _⟩ | ⟨c, h1, h2, h3, _⟩
  · omega
  · subst h1; rw [Int.toNat_natCast]; exact ⟨rfl, h2, h3⟩
theorem best_rng {P : Nat → Rat} {M : List Nat} {k : Nat} {b : Int} (h : Best P M k b) : -1 ≤ b ∧ b < k := by
  rcases h with ⟨h1, _⟩ | ⟨c, h1, h2, _⟩ <;> omega

set_option maxHeartbeats 4000000 in
theorem r40_apportion {w : World} {Dl : Nat → TypeId → Prop} {Ll : Nat} {vl : Value} {qs : List Rat} (hl0 : Rs Ll Dl w vl qs) (hLl : Ll ≤ 1048576) (hnl : qs.length ≤ 128) {t : Int} (ht : rsum qs = ((t : Int) : Rat)) (htr : -1152921504606846976 ≤ t ∧ t ≤ 1152921504606846976) (hqs : ∀ k, k < qs.length → 0 ≤ qs.getD k default ∧ qs.getD k default ≤ ((35184372088832 : Int) : Rat)) :
    Calls Try.prog 16 #[vl] w fun e w' => ∃ v, e = .returned v ∧ (∃ vo, v = .tuple #[vo, .int .i64 0] ∧ Sg (gI .i64) (fun b _ => w.heap.size ≤ b) w' vo (byR (appF qs t) qs.length)) ∧ Ext w w' := by
  have hE : Below w.heap.size w w := Below.refl _ _
  have hl := hl0.old
  clear hl0
  have hfl : (rsum qs).floor = t := by rw [ht, Rat.floor_intCast]
  have hfit : -9223372036854775808 ≤ (rsum qs).floor ∧ (rsum qs).floor ≤ 9223372036854775807 := by rw [hfl]; omega
  have hmis := missing_int ht
  refine calls_of (n := 134) (rs := [.tmp 2, .tmp 3]) Try.func16 rfl rfl rfl (Nat.le_of_ble_eq_true rfl) ?_
  refine wset fun F0 hF0 => ?_
  refine wseq ?_
  refine wregion ?_
  refine RL.val rfl rfl (by decide) (r_assign_as (v := (.slice none (0) (0))) rfl) ?_
  refine RL.val rfl rfl (by decide) (r_assign_as (v := (.int .i64 (0))) rfl) ?_
  refine RL.nil ?_
  refine wseq ?_
  refine wseq ?_
  refine wregion ?_
  refine RL.val rfl rfl (by decide) (r_move_as (v := vl) (hF0 0)) ?_
  obtain ⟨A1, c2, hv3, hc4, hc5⟩ := hl.len
  refine RL.val rfl rfl (by decide) (r_len Try.underlying37 hv3) ?_
  refine RL.val rfl rfl (by decide) (r_gtr (k := .i64) (a := ((qs.length : Nat) : Int)) (b := 128) rfl rfl) ?_
  refine RL.nil ?_
  refine wcond (b := decide (128 < ((qs.length : Nat) : Int))) rfl (fun hb6 => ?_) (fun hb6 => ?_)
  · have hb6p := hb6
    replace hb6p := of_decide_eq_true hb6p
    refine wseq ?_
    refine wregion ?_
    refine RL.val rfl rfl (by decide) (r_assign_as (v := (.slice none (0) (0))) rfl) ?_
    refine RL.val rfl rfl (by decide) (r_assign_as (v := (.int .i64 (8))) rfl) ?_
    refine RL.nil ?_
    refine wret ?_
    refine ⟨[(.slice none (0) (0)), (.int .i64 (8))], ⟨rfl, ⟨rfl, trivial⟩⟩, ?_⟩
    exfalso; omega
  · have hb6p := hb6
    replace hb6p := of_decide_eq_false hb6p
    refine wskip ?_
    refine wseq ?_
    refine wseq ?_
    refine wregion ?_
    refine RL.val rfl rfl (by decide) (r_assign_as (v := (.int .i64 (0))) rfl) ?_
    refine RL.nil ?_
    refine wblock ?_
    refine wset fun F7 hF8 => ?_
    refine wloop (σ := Nat) (fun (k : Nat) fl wl => Off [2, 3, 4, 16, 17, 18, 19, 20, 21, 22, 23, 24, 25, 26, 27, 28, 29] F7 fl ∧ fl 4 = (.int .i64 (((k : Nat) : Int))) ∧ (k ≤ qs.length) ∧ (Rs Ll (fun b T => Dl b T ∧ b < w.heap.size) wl vl qs) ∧ (Below w.heap.size w wl)) (fun (k : Nat) => qs.length - k) (0) ?_ ?_
    · exact ⟨Off.refl _ _, (hF8 4).trans (rfl), Nat.zero_le _, hl, hE⟩
    · clear hl hE
      rintro k f9 w10 ⟨hoff11, hs12, hk, hl, hE⟩
      refine wseq ?_
      refine wseq ?_
      refine wregion ?_
      refine RL.val rfl rfl (by decide) (r_move_as (v := (.int .i64 (((k : Nat) : Int)))) hs12) ?_
      refine RL.val rfl rfl (by decide) (r_move_as (v := vl) ((hoff11 0 rfl).trans ((hF8 0).trans (hF0 0)))) ?_
      refine RL.val rfl rfl (by decide) (r_len Try.underlying37 hv3) ?_
      refine RL.val rfl rfl (by decide) (r_lss (k := .i64) (a := ((k : Nat) : Int)) (b := ((qs.length : Nat) : Int)) rfl rfl) ?_
      refine RL.nil ?_
      refine wcond (b := decide (((k : Nat) : Int) < ((qs.length : Nat) : Int))) rfl (fun hb13 => ?_) (fun hb13 => ?_)
      · have hb13p := hb13
        replace hb13p := of_decide_eq_true hb13p
        refine wskip ?_
        refine wseq ?_
        refine wblock ?_
        refine wseq ?_
        have hkl : k < qs.length := by omega
        refine wregion ?_
        refine RL.val rfl rfl (by decide) (r_move_as (v := vl) ((hoff11 0 rfl).trans ((hF8 0).trans (hF0 0)))) ?_
        refine RL.val rfl rfl (by decide) (r_move_as (v := (.int .i64 (((k : Nat) : Int)))) hs12) ?_
        obtain ⟨b14, o15, c16, s19, vn20, vd21, x22, d23, hv17, hc18, hx24, lm25, ln26, hd27, lm28, ln29, eq30⟩ := hl.ix (i := ((k : Nat) : Int)) (k) (by omega) (by omega)
        refine RL.val rfl rfl (by decide) (r_indexAddr (i := ((k : Nat) : Int)) Try.underlying37 ty42 hv17 rfl (by omega) (by omega)) ?_
        refine RL.val rfl rfl (by decide) (r_loada (cs := [(.bool (s19)), vn20, vd21]) Try.underlying42 ag42 ty42 rfl hc18) ?_
        refine RL.call rfl rfl (by decide) (r_call (vl := [(.agg #[(.bool (s19)), vn20, vd21])]) ent28 rfl) (r28_abs hx24 lm25 (by first | omega | simp) hd27 lm28 (by first | omega | simp) (show ratOf s19 (val x22) (val d23) = qs.getD (k) default from eq30)) ?_
        rintro _ w31 ⟨⟨s35, vn36, vd37, x38, d39, rfl, hx40, lm41, ln33, hd42, lm43, ln34, eq44⟩, he32⟩
        replace hE := Below.ext hE hE.size he32
        refine RL.call rfl rfl (by decide) (r_call (vl := [(.int .i64 (281474976710656))]) ent15 rfl) (r03_from (by omega)) ?_
        rintro _ w45 ⟨⟨vn47, vd49, rfl, hn48, hd50, hl51, hl52⟩, he46⟩
        have hlv53 := den_one ((281474976710656 : Int) : Rat)
        replace hn48 := hn48.mono (D' := fun b T => w.heap.size ≤ b ∧ T = 52) (fun b T h => ⟨Nat.le_trans hE.size h.1, h.2⟩)
        replace hd50 := hd50.mono (D' := fun b T => w.heap.size ≤ b ∧ T = 52) (fun b T h => ⟨Nat.le_trans hE.size h.1, h.2⟩)
        replace hE := Below.ext hE hE.size he46
        replace hx40 := hx40.tr (Sm.ext he46)
        replace hd42 := hd42.tr (Sm.ext he46)
        refine RL.call rfl rfl (by decide) (r_call (vl := [(.agg #[(.bool (s35)), vn36, vd37]), (.agg #[(.bool (decide (((281474976710656 : Int) : Rat).num < 0))), vn47, vd49])]) ent27 rfl) (r03_compare hx40 lm41 (by first | omega | simp) hd42 lm43 (by first | omega | simp) (show ratOf s35 (val x38) (val d39) = absQ (qs.getD (k) default) from eq44) hn48 (digs_lm _) (by first | omega | simp) hd50 (digs_lm _) (by first | omega | simp) (ratOf_canon _)) ?_
        rintro _ w54 ⟨rfl, he55⟩
        replace hE := Below.ext hE hE.size he55
        refine RL.val rfl rfl (by decide) (r_gtr (k := .i64) (a := cmpQ (absQ (qs.getD (k) default)) ((281474976710656 : Int) : Rat)) (b := 0) rfl rfl) ?_
        refine RL.nil ?_
        refine wcond (b := decide (0 < (cmpQ (absQ (qs.getD (k) default)) ((281474976710656 : Int) : Rat)))) rfl (fun hb56 => ?_) (fun hb56 => ?_)
        · have hb56p := hb56
          replace hb56p := of_decide_eq_true hb56p
          have h1 := cmpQ_pos.1 hb56p; have h2 := hqs k hkl; unfold absQ at h1; rw [if_neg (Rat.not_lt.2 h2.1)] at h1; have h3 := Rat.intCast_lt_intCast.1 (Std.lt_of_lt_of_le h1 h2.2); omega
        · have hb56p := hb56
          replace hb56p := of_decide_eq_false hb56p
          refine wskip ?_
          refine wregion ?_
          refine RL.val rfl rfl (by decide) (r_move_as (v := (.int .i64 (((k : Nat) : Int)))) hs12) ?_
          refine RL.val rfl rfl (by decide) (r_add (k := .i64) (a := ((k : Nat) : Int)) (b := 1) (c := ((k : Nat) : Int) + 1) rfl rfl (wi64 (by omega))) ?_
          refine RL.val rfl rfl (by decide) (r_assign_as (v := (.int .i64 (((k : Nat) : Int) + 1))) rfl) ?_
          refine RL.nil ?_
          have hm57 := Ext.trans he32 (Ext.trans he46 he55)
          replace hl := hl.tr (Sm.ext hm57)
          refine ⟨(k + 1), ⟨?_, ?_, ?_, ?_, ?_⟩, ?_⟩
          · exact (by repeat (first | exact hoff11 | refine Off.st ?_ (by decide) _))
          · first | rfl | exact int_eq (by omega) | exact bool_eq (by simp)
          · omega
          · exact hl
          · exact hE
          · (try dsimp only)
            omega
      · have hb13p := hb13
        replace hb13p := of_decide_eq_false hb13p
        refine wexit ?_
        refine wseq ?_
        refine wregion ?_
        refine RL.val rfl rfl (by decide) (r_move_as (v := vl) ((hoff11 0 rfl).trans ((hF8 0).trans (hF0 0)))) ?_
        refine RL.call rfl rfl (by decide) (r_call (vl := [vl]) ent29 rfl) (r03_sum hl (by omega) (by omega)) ?_
        rintro _ w58 ⟨⟨vn60, vd62, rfl, hn61, hd63, hl64, hl65⟩, he59⟩
        have hlv66 := den_one (rsum qs)
        replace hn61 := hn61.mono (D' := fun b T => w.heap.size ≤ b ∧ T = 52) (fun b T h => ⟨Nat.le_trans hE.size h.1, h.2⟩)
        replace hd63 := hd63.mono (D' := fun b T => w.heap.size ≤ b ∧ T = 52) (fun b T h => ⟨Nat.le_trans hE.size h.1, h.2⟩)
        replace hE := Below.ext hE hE.size he59
        refine RL.run rfl rfl (by decide) (h_alloc (cs := [(.bool false), (.slice none 0 0), (.slice none 0 0)]) ty42 rfl) ?_
        rintro _ w67 ⟨b68, rfl, hs71, hb70, he69⟩
        have ge_b68 : w.heap.size ≤ b68 := by rw [hs71]; exact hE.size
        replace hE := Below.ext hE hE.size he69
        refine RL.runs rfl rfl (h_store (vv := (.agg #[(.bool (decide ((rsum qs).num < 0))), vn60, vd62])) (cs := [(.bool (decide ((rsum qs).num < 0))), vn60, vd62]) (o := 0) ty42 rfl rfl rfl rfl (one_cons rfl (one_cons hn61.one (one_cons hd63.one one_nil))) hb70 (Nat.le_of_ble_eq_true rfl)) ?_
        rintro w72 ⟨hn73, hx74, hz75⟩
        replace hE := Below.exc hE hE.size hx74 ge_b68
        have nb_hx74 := (Nb.of hb70 (nu_cons rfl (nu_cons rfl (nu_cons rfl nu_nil))))
        replace hb70 : Bk w72 b68 42 [(.bool (decide ((rsum qs).num < 0))), vn60, vd62] := hn73
        refine RL.nil ?_
        refine wseq ?_
        refine wregion ?_
        have hc76 := hb70.cells (o := 0) (cs := [(.bool (decide ((rsum qs).num < 0))), vn60, vd62]) rfl
        refine RL.val rfl rfl (by decide) (r_loada (o := 0) (cs := [(.bool (decide ((rsum qs).num < 0))), vn60, vd62]) Try.underlying42 ag42 ty42 rfl hc76) ?_
        replace hn61 := (hn61.tr (Sm.ext he69)).apn hx74 nb_hx74
        replace hd63 := (hd63.tr (Sm.ext he69)).apn hx74 nb_hx74
        refine RL.call rfl rfl (by decide) (r_call (vl := [(.agg #[(.bool (decide ((rsum qs).num < 0))), vn60, vd62])]) ent31 rfl) (r03_floor hn61 (digs_lm _) (by first | omega | simp) hd63 (digs_lm _) (by first | omega | simp) (ratOf_canon _)) ?_
        rintro _ w77 ⟨⟨vr79, rfl, hr80, hl81⟩, he78⟩
        replace hr80 := hr80.mono (D' := fun b T => w.heap.size ≤ b ∧ T = 52) (fun b T h => ⟨Nat.le_trans hE.size h.1, h.2⟩)
        replace hE := Below.ext hE hE.size he78
        refine RL.call rfl rfl (by decide) (r_call (vl := [(.agg #[(.bool (decide ((rsum qs).floor < 0))), vr79])]) ent30 rfl) (r02_value hr80 (digs_lm _) (by first | omega | simp) (sg_canon _)) ?_
        rintro _ w82 ⟨rfl, he83⟩
        replace hE := Below.ext hE hE.size he83
        refine RL.val rfl rfl (by decide) (r_move_as (v := (.tuple #[(.int .i64 (if (-9223372036854775808 ≤ (rsum qs).floor ∧ (rsum qs).floor ≤ 9223372036854775807) then (rsum qs).floor else 0)), (.bool (decide (-9223372036854775808 ≤ (rsum qs).floor ∧ (rsum qs).floor ≤ 9223372036854775807)))])) rfl) ?_
        refine RL.val rfl rfl (by decide) (r_extract (v := (.int .i64 (t))) rfl (by rw [if_pos hfit, hfl]; rfl)) ?_
        refine RL.val rfl rfl (by decide) (r_extract (v := (.bool (true))) rfl (by rw [decide_eq_true hfit]; rfl)) ?_
        refine RL.val rfl rfl (by decide) (r_assign_as (v := (.int .i64 (t))) rfl) ?_
        refine RL.val rfl rfl (by decide) (r_assign_as (v := (.bool (true))) rfl) ?_
        refine RL.nil ?_
        refine wseq ?_
        refine wseq ?_
        refine wdraw mixed fun w84 he85 => ?_
        replace hE := Below.ext hE hE.size he85
        refine RA.take 0 rfl (by kernel_rfl) rfl rfl (by decide) (fun _ => r_move_as (v := (.bool (true))) rfl) ?_
        refine RA.take 1 rfl (by kernel_rfl) rfl rfl (by decide) (fun _ => r_not rfl) ?_
        refine RA.take 2 rfl (by kernel_rfl) rfl rfl (by decide) (fun _ => r_move_as (v := (.bool (false))) rfl) ?_
        have hm87 := Ext.trans he78 (Ext.trans he83 he85)
        replace hb70 := hb70.ext hm87
        have hc86 := hb70.cells (o := 0) (cs := [(.bool (decide ((rsum qs).num < 0))), vn60, vd62]) rfl
        refine RA.grd 3 rfl (by kernel_rfl) rfl rfl rfl rfl rfl (by decide) (Ext.refl _) (fun u hu => r_loada (o := 0) (cs := [(.bool (decide ((rsum qs).num < 0))), vn60, vd62]) Try.underlying42 ag42 ty42 rfl (fun j v hj => cell_ext hu (hc86 j v hj))) ?_
        refine RA.gtake 4 rfl (by kernel_rfl) rfl rfl rfl rfl (by decide) (fun _ => r_move_as (v := (.int .i64 (t))) rfl) ?_
        refine RA.all [5] (by kernel_rfl) rfl ?_
        refine RS.gcall rfl rfl rfl rfl rfl (by decide) (r_call (vl := [(.int .i64 (t))]) ent15 rfl) (r03_from (by omega)) ?_ RS.nil
        rintro _ w88 ⟨⟨vn90, vd92, rfl, hn91, hd93, hl94, hl95⟩, he89⟩
        refine ⟨.inr (.inr he89), RA.more (S' := fun u => Ext _ u) (fun u hu => Ext.trans he89 hu) ?_⟩
        have hlv96 := den_one ((t : Int) : Rat)
        replace hn91 := hn91.mono (D' := fun b T => w.heap.size ≤ b ∧ T = 52) (fun b T h => ⟨Nat.le_trans hE.size h.1, h.2⟩)
        replace hd93 := hd93.mono (D' := fun b T => w.heap.size ≤ b ∧ T = 52) (fun b T h => ⟨Nat.le_trans hE.size h.1, h.2⟩)
        replace hE := Below.ext hE hE.size he89
        refine RA.all [6] (by kernel_rfl) rfl ?_
        have hm99 := Ext.trans hm87 he89
        replace hn61 := hn61.tr (Sm.ext hm99)
        replace hd63 := hd63.tr (Sm.ext hm99)
        refine RS.gcall rfl rfl rfl rfl rfl (by decide) (r_call (vl := [(.agg #[(.bool (decide ((rsum qs).num < 0))), vn60, vd62]), (.agg #[(.bool (decide (((t : Int) : Rat).num < 0))), vn90, vd92])]) ent27 rfl) (r03_compare hn61 (digs_lm _) (by first | omega | simp) hd63 (digs_lm _) (by first | omega | simp) (ratOf_canon _) hn91 (digs_lm _) (by first | omega | simp) hd93 (digs_lm _) (by first | omega | simp) (ratOf_canon _)) ?_ RS.nil
        rintro _ w97 ⟨rfl, he98⟩
        refine ⟨.inr (.inr he98), RA.more (S' := fun u => Ext _ u) (fun u hu => Ext.trans he98 hu) ?_⟩
        replace hE := Below.ext hE hE.size he98
        refine RA.gtake 7 rfl (by kernel_rfl) rfl rfl rfl rfl (by decide) (fun _ => r_neq (k := .i64) (a := cmpQ (rsum qs) ((t : Int) : Rat)) (b := 0) rfl rfl) ?_
        refine RA.take 8 rfl (by kernel_rfl) rfl rfl (by decide) (fun _ => r_pick_f (v := (.bool (decide ((cmpQ (rsum qs) ((t : Int) : Rat)) ≠ 0)))) rfl rfl) ?_
        refine RA.done (by kernel_rfl) ?_
        refine wcond (b := decide ((cmpQ (rsum qs) ((t : Int) : Rat)) ≠ 0)) rfl (fun hb100 => ?_) (fun hb100 => ?_)
        · have hb100p := hb100
          replace hb100p := of_decide_eq_true hb100p
          exact absurd (cmpQ_self ht) hb100p
        · have hb100p := hb100
          replace hb100p := of_decide_eq_false hb100p
          refine wskip ?_
          refine wset fun F101 hF102 => ?_
          refine wcut (fun fl wl => ∃ b106 : Nat, ∃ b113 : Nat, Off [8, 9, 47, 48, 49, 50, 51, 52] F101 fl ∧ fl 8 = (.slice (some ⟨b106, 0, none⟩) (qs.length) (qs.length)) ∧ fl 9 = (.slice (some ⟨b113, 0, none⟩) (qs.length) (qs.length)) ∧ (w.heap.size ≤ b106) ∧ (b68 < b106) ∧ (w.heap.size ≤ b113) ∧ (b68 < b113) ∧ (b106 ≠ b113) ∧ (Rs Ll (fun b T => Dl b T ∧ b < w.heap.size) wl vl qs) ∧ (Below w.heap.size w wl) ∧ (Sg (gN .u32) (fun b T => w.heap.size ≤ b ∧ T = 52) wl vn60 (digs (rsum qs).num.natAbs)) ∧ (Sg (gN .u32) (fun b T => w.heap.size ≤ b ∧ T = 52) wl vd62 (digs (rsum qs).den)) ∧ (Bk wl b68 42 [(.bool (decide ((rsum qs).num < 0))), vn60, vd62]) ∧ (Sg (gN .u32) (fun b T => w.heap.size ≤ b ∧ T = 52) wl vr79 (digs (rsum qs).floor.natAbs)) ∧ (Sg (gN .u32) (fun b T => w.heap.size ≤ b ∧ T = 52) wl vn90 (digs ((t : Int) : Rat).num.natAbs)) ∧ (Sg (gN .u32) (fun b T => w.heap.size ≤ b ∧ T = 52) wl vd92 (digs ((t : Int) : Rat).den)) ∧ (Af (gI .i64) wl b106 3 (List.replicate (qs.length) (0 : Int)) qs.length) ∧ (Aq 1048600 (fun b T => w.heap.size ≤ b ∧ T = 52) wl b113 42 (List.replicate (qs.length) 0) qs.length)) ?_ ?_
          · have hoff118 := Off.refl [8, 9, 47, 48, 49, 50, 51, 52] F101
            refine wdraw mixed fun w119 he120 => ?_
            replace hE := Below.ext hE hE.size he120
            refine RA.take 0 rfl (by kernel_rfl) rfl rfl (by decide) (fun _ => r_move_as (v := vl) ((hF102 0).trans ((hoff11 0 rfl).trans ((hF8 0).trans (hF0 0))))) ?_
            refine RA.take 1 rfl (by kernel_rfl) rfl rfl (by decide) (fun _ => r_len Try.underlying37 hv3) ?_
            refine RA.take 3 rfl (by kernel_rfl) rfl rfl (by decide) (fun _ => r_move_as (v := vl) ((hF102 0).trans ((hoff11 0 rfl).trans ((hF8 0).trans (hF0 0))))) ?_
            refine RA.take 4 rfl (by kernel_rfl) rfl rfl (by decide) (fun _ => r_len Try.underlying37 hv3) ?_
            refine RA.all [2, 5] (by kernel_rfl) rfl ?_
            have hn126 : (((qs.length : Nat) : Int) : Int) = ((qs.length : Nat) : Int) := by omega
            refine RS.run rfl rfl rfl (by decide) (h_make1 (n := qs.length) Try.underlying26 ty3 rfl (int_eq hn126) (int_eq hn126) (by omega) (by omega)) ?_ ?_
            · rintro _ w121 ⟨b122, rfl, hs125, hb124, he123⟩
              refine ⟨.inr (.inr he123), RA.more (S' := fun u => Ext _ u) (fun u hu => Ext.trans he123 hu) ?_⟩
              have hm127 := Ext.trans he89 (Ext.trans he98 he120)
              replace hb70 := hb70.ext hm127
              have lt_b68_b122 := Nat.lt_of_lt_of_eq hb70.lt hs125.symm
              have ge_b122 : w.heap.size ≤ b122 := by rw [hs125]; exact hE.size
              replace hE := Below.ext hE hE.size he123
              replace hb124 := Af.made (g := (gI .i64)) (z := (0 : Int)) hb124 rfl
              refine RA.take 6 rfl (by kernel_rfl) rfl rfl (by decide) (fun _ => r_assign_as (v := (.slice (some ⟨b122, 0, none⟩) (qs.length) (qs.length))) rfl) ?_
              refine RA.all [5] (by kernel_rfl) rfl ?_
              have hn133 : (((qs.length : Nat) : Int) : Int) = ((qs.length : Nat) : Int) := by omega
              refine RS.run rfl rfl rfl (by decide) (h_make (n := qs.length) (c := qs.length) Try.underlying37 ty42 rfl (int_eq hn133) (int_eq hn133) (Nat.le_refl _) (by omega) (by omega)) ?_ RS.nil
              rintro _ w128 ⟨b129, rfl, hs132, hb131, he130⟩
              refine ⟨.inr (.inr he130), RA.more (S' := fun u => Ext _ u) (fun u hu => Ext.trans he130 hu) ?_⟩
              have lt_b122_b129 := Nat.lt_of_lt_of_eq hb124.lt hs132.symm
              have ge_b129 : w.heap.size ≤ b129 := by rw [hs132]; exact hE.size
              replace hE := Below.ext hE hE.size he130
              replace hb131 := Aq.made (L := 1048600) (D := (fun b T => w.heap.size ≤ b ∧ T = 52)) hb131
              refine RA.take 7 rfl (by kernel_rfl) rfl rfl (by decide) (fun _ => r_assign_as (v := (.slice (some ⟨b129, 0, none⟩) (qs.length) (qs.length))) rfl) ?_
              refine RA.done (by kernel_rfl) ?_
              have hm134 := Ext.trans he78 (Ext.trans he83 (Ext.trans he85 (Ext.trans he89 (Ext.trans he98 (Ext.trans he120 (Ext.trans he123 he130))))))
              replace hl := ((hl.tr (Sm.ext (Ext.trans he59 he69))).tr (Sm.exc hx74 (fun _ _ _ _ hd => absurd hd.2 (Nat.not_lt_of_le ge_b68)))).tr (Sm.ext hm134)
              have hm135 := Ext.trans he98 (Ext.trans he120 (Ext.trans he123 he130))
              replace hn61 := hn61.tr (Sm.ext hm135)
              replace hd63 := hd63.tr (Sm.ext hm135)
              replace hb70 := hb70.ext (Ext.trans he123 he130)
              have hm136 := Ext.trans he83 (Ext.trans he85 (Ext.trans he89 (Ext.trans he98 (Ext.trans he120 (Ext.trans he123 he130)))))
              replace hr80 := hr80.tr (Sm.ext hm136)
              replace hn91 := hn91.tr (Sm.ext hm135)
              replace hd93 := hd93.tr (Sm.ext hm135)
              replace hb124 := hb124.ext he130
              refine ⟨b122, b129, ?_, ?_, ?_, ?_, ?_, ?_, ?_, ?_, ?_, ?_, ?_, ?_, ?_, ?_, ?_, ?_, ?_, ?_⟩
              · exact (by repeat (first | exact hoff118 | refine Off.st ?_ (by decide) _ | refine Off.via hoff11 (by decide) ?_ | refine Off.eq hF8 ?_))
              · exact rfl
              · exact rfl
              · exact ge_b122
              · exact lt_b68_b122
              · exact ge_b129
              · exact (Nat.lt_trans lt_b68_b122 lt_b122_b129)
              · exact (Nat.ne_of_lt lt_b122_b129)
              · exact hl
              · exact hE
              · exact hn61
              · exact hd63
              · exact hb70
              · exact hr80
              · exact hn91
              · exact hd93
              · exact hb124
              · exact hb131
            · have hn142 : (((qs.length : Nat) : Int) : Int) = ((qs.length : Nat) : Int) := by omega
              refine RS.run rfl rfl rfl (by decide) (h_make (n := qs.length) (c := qs.length) Try.underlying37 ty42 rfl (int_eq hn142) (int_eq hn142) (Nat.le_refl _) (by omega) (by omega)) ?_ RS.nil
              rintro _ w137 ⟨b138, rfl, hs141, hb140, he139⟩
              refine ⟨.inr (.inr he139), RA.more (S' := fun u => Ext _ u) (fun u hu => Ext.trans he139 hu) ?_⟩
              have hm143 := Ext.trans he89 (Ext.trans he98 he120)
              replace hb70 := hb70.ext hm143
              have lt_b68_b138 := Nat.lt_of_lt_of_eq hb70.lt hs141.symm
              have ge_b138 : w.heap.size ≤ b138 := by rw [hs141]; exact hE.size
              replace hE := Below.ext hE hE.size he139
              replace hb140 := Aq.made (L := 1048600) (D := (fun b T => w.heap.size ≤ b ∧ T = 52)) hb140
              refine RA.all [2] (by kernel_rfl) rfl ?_
              have hn149 : (((qs.length : Nat) : Int) : Int) = ((qs.length : Nat) : Int) := by omega
              refine RS.run rfl rfl rfl (by decide) (h_make1 (n := qs.length) Try.underlying26 ty3 rfl (int_eq hn149) (int_eq hn149) (by omega) (by omega)) ?_ RS.nil
              rintro _ w144 ⟨b145, rfl, hs148, hb147, he146⟩
              refine ⟨.inr (.inr he146), RA.more (S' := fun u => Ext _ u) (fun u hu => Ext.trans he146 hu) ?_⟩
              have lt_b138_b145 := Nat.lt_of_lt_of_eq hb140.lt hs148.symm
              have ge_b145 : w.heap.size ≤ b145 := by rw [hs148]; exact hE.size
              replace hE := Below.ext hE hE.size he146
              replace hb147 := Af.made (g := (gI .i64)) (z := (0 : Int)) hb147 rfl
              refine RA.take 6 rfl (by kernel_rfl) rfl rfl (by decide) (fun _ => r_assign_as (v := (.slice (some ⟨b145, 0, none⟩) (qs.length) (qs.length))) rfl) ?_
              refine RA.take 7 rfl (by kernel_rfl) rfl rfl (by decide) (fun _ => r_assign_as (v := (.slice (some ⟨b138, 0, none⟩) (qs.length) (qs.length))) rfl) ?_
              refine RA.done (by kernel_rfl) ?_
              have hm150 := Ext.trans he78 (Ext.trans he83 (Ext.trans he85 (Ext.trans he89 (Ext.trans he98 (Ext.trans he120 (Ext.trans he139 he146))))))
              replace hl := ((hl.tr (Sm.ext (Ext.trans he59 he69))).tr (Sm.exc hx74 (fun _ _ _ _ hd => absurd hd.2 (Nat.not_lt_of_le ge_b68)))).tr (Sm.ext hm150)
              have hm151 := Ext.trans he98 (Ext.trans he120 (Ext.trans he139 he146))
              replace hn61 := hn61.tr (Sm.ext hm151)
              replace hd63 := hd63.tr (Sm.ext hm151)
              replace hb70 := hb70.ext (Ext.trans he139 he146)
              have hm152 := Ext.trans he83 (Ext.trans he85 (Ext.trans he89 (Ext.trans he98 (Ext.trans he120 (Ext.trans he139 he146)))))
              replace hr80 := hr80.tr (Sm.ext hm152)
              replace hn91 := hn91.tr (Sm.ext hm151)
              replace hd93 := hd93.tr (Sm.ext hm151)
              replace hb140 := hb140.ext he146
              refine ⟨b145, b138, ?_, ?_, ?_, ?_, ?_, ?_, ?_, ?_, ?_, ?_, ?_, ?_, ?_, ?_, ?_, ?_, ?_, ?_⟩
              · exact (by repeat (first | exact hoff118 | refine Off.st ?_ (by decide) _ | refine Off.via hoff11 (by decide) ?_ | refine Off.eq hF8 ?_))
              · exact rfl
              · exact rfl
              · exact ge_b145
              · exact (Nat.lt_trans lt_b68_b138 lt_b138_b145)
              · exact ge_b138
              · exact lt_b68_b138
              · exact (Nat.ne_of_gt lt_b138_b145)
              · exact hl
              · exact hE
              · exact hn61
              · exact hd63
              · exact hb70
              · exact hr80
              · exact hn91
              · exact hd93
              · exact hb147
              · exact hb140
          · clear hl hE hn61 hd63 hb70 hr80 hn91 hd93
            rintro f153 w154 ⟨b106, b113, hoff155, hs156, hs157, ge_b106, lt_b68_b106, ge_b113, lt_b68_b113, ne_b106_b113, hl, hE, hn61, hd63, hb70, hr80, hn91, hd93, hb108, hb115⟩
            refine wseq ?_
            refine wseq ?_
            refine wregion ?_
            refine RL.val rfl rfl (by decide) (r_assign_as (v := (.int .i64 (0))) rfl) ?_
            refine RL.nil ?_
            refine wblock ?_
            refine wset fun F158 hF159 => ?_
            refine wloop (σ := Nat) (fun (k : Nat) fl wl => Off [6, 10, 53, 54, 55, 56, 57, 58, 59, 60, 61, 62, 63, 64, 65, 66, 67, 68, 69, 70, 71, 72, 73, 74, 75, 76, 77, 78, 79, 80, 81, 82, 83, 84, 85, 86, 87, 88, 89] F158 fl ∧ fl 10 = (.int .i64 (((k : Nat) : Int))) ∧ fl 6 = (.int .i64 (t - flsum (qs.take k))) ∧ (k ≤ qs.length) ∧ (0 ≤ flsum (qs.take k) ∧ flsum (qs.take k) ≤ k * 35184372088832) ∧ (Af (gI .i64) wl b106 3 (preK (fun j => (qs.getD j default).floor) 0 qs.length k) qs.length) ∧ (Aq 1048600 (fun b T => w.heap.size ≤ b ∧ T = 52) wl b113 42 (preK (fun j => fr (qs.getD j default)) 0 qs.length k) qs.length) ∧ (Rs Ll (fun b T => Dl b T ∧ b < w.heap.size) wl vl qs) ∧ (Below w.heap.size w wl) ∧ (Sg (gN .u32) (fun b T => w.heap.size ≤ b ∧ T = 52) wl vn60 (digs (rsum qs).num.natAbs)) ∧ (Sg (gN .u32) (fun b T => w.heap.size ≤ b ∧ T = 52) wl vd62 (digs (rsum qs).den)) ∧ (Bk wl b68 42 [(.bool (decide ((rsum qs).num < 0))), vn60, vd62]) ∧ (Sg (gN .u32) (fun b T => w.heap.size ≤ b ∧ T = 52) wl vr79 (digs (rsum qs).floor.natAbs)) ∧ (Sg (gN .u32) (fun b T => w.heap.size ≤ b ∧ T = 52) wl vn90 (digs ((t : Int) : Rat).num.natAbs)) ∧ (Sg (gN .u32) (fun b T => w.heap.size ≤ b ∧ T = 52) wl vd92 (digs ((t : Int) : Rat).den))) (fun (k : Nat) => qs.length - k) (0) ?_ ?_
            · exact ⟨Off.refl _ _, (hF159 10).trans (rfl), (hF159 6).trans ((((hoff155 6 rfl).trans (hF102 6))).trans (int_eq (by simp [flsum]))), Nat.zero_le _, (by simp [flsum]), (by rw [preK_zero]; exact hb108), (by rw [preK_zero]; exact hb115), hl, hE, hn61, hd63, hb70, hr80, hn91, hd93⟩
            · clear hl hE hn61 hd63 hb70 hr80 hn91 hd93 hb108 hb115
              rintro k f160 w161 ⟨hoff162, hs163, hs164, hk, hfs, hb108, hb115, hl, hE, hn61, hd63, hb70, hr80, hn91, hd93⟩
              refine wseq ?_
              refine wseq ?_
              refine wregion ?_
              refine RL.val rfl rfl (by decide) (r_move_as (v := (.int .i64 (((k : Nat) : Int)))) hs163) ?_
              refine RL.val rfl rfl (by decide) (r_move_as (v := vl) ((hoff162 0 rfl).trans ((hF159 0).trans ((hoff155 0 rfl).trans ((hF102 0).trans ((hoff11 0 rfl).trans ((hF8 0).trans (hF0 0)))))))) ?_
              refine RL.val rfl rfl (by decide) (r_len Try.underlying37 hv3) ?_
              refine RL.val rfl rfl (by decide) (r_lss (k := .i64) (a := ((k : Nat) : Int)) (b := ((qs.length : Nat) : Int)) rfl rfl) ?_
              refine RL.nil ?_
              refine wcond (b := decide (((k : Nat) : Int) < ((qs.length : Nat) : Int))) rfl (fun hb165 => ?_) (fun hb165 => ?_)
              · have hb165p := hb165
                replace hb165p := of_decide_eq_true hb165p
                refine wskip ?_
                refine wseq ?_
                refine wblock ?_
                refine wseq ?_
                have hkl : k < qs.length := by omega
                obtain ⟨fq, hfq⟩ : ∃ z, z = (qs.getD k default).floor := ⟨_, rfl⟩
                have hfb := floor_bd (hqs k hkl)
                rw [← hfq] at hfb
                have hff : -9223372036854775808 ≤ (qs.getD k default).floor ∧ (qs.getD k default).floor ≤ 9223372036854775807 := by rw [← hfq]; omega
                refine wregion ?_
                refine RL.val rfl rfl (by decide) (r_move_as (v := (.slice (some ⟨b106, 0, none⟩) (qs.length) (qs.length))) ((hoff162 8 rfl).trans ((hF159 8).trans hs156))) ?_
                refine RL.val rfl rfl (by decide) (r_move_as (v := (.int .i64 (((k : Nat) : Int)))) hs163) ?_
                refine RL.val rfl rfl (by decide) (r_move_as (v := vl) ((hoff162 0 rfl).trans ((hF159 0).trans ((hoff155 0 rfl).trans ((hF102 0).trans ((hoff11 0 rfl).trans ((hF8 0).trans (hF0 0)))))))) ?_
                refine RL.val rfl rfl (by decide) (r_move_as (v := (.int .i64 (((k : Nat) : Int)))) hs163) ?_
                obtain ⟨b166, o167, c168, s171, vn172, vd173, x174, d175, hv169, hc170, hx176, lm177, ln178, hd179, lm180, ln181, eq182⟩ := hl.ix (i := ((k : Nat) : Int)) (k) (by omega) (by omega)
                refine RL.val rfl rfl (by decide) (r_indexAddr (i := ((k : Nat) : Int)) Try.underlying37 ty42 hv169 rfl (by omega) (by omega)) ?_
                refine RL.val rfl rfl (by decide) (r_loada (cs := [(.bool (s171)), vn172, vd173]) Try.underlying42 ag42 ty42 rfl hc170) ?_
                refine RL.call rfl rfl (by decide) (r_call (vl := [(.agg #[(.bool (s171)), vn172, vd173])]) ent31 rfl) (r03_floor hx176 lm177 (by first | omega | simp) hd179 lm180 (by first | omega | simp) (show ratOf s171 (val x174) (val d175) = qs.getD (k) default from eq182)) ?_
                rintro _ w183 ⟨⟨vr185, rfl, hr186, hl187⟩, he184⟩
                replace hr186 := hr186.mono (D' := fun b T => w.heap.size ≤ b ∧ T = 52) (fun b T h => ⟨Nat.le_trans hE.size h.1, h.2⟩)
                replace hE := Below.ext hE hE.size he184
                refine RL.call rfl rfl (by decide) (r_call (vl := [(.agg #[(.bool (decide ((qs.getD (k) default).floor < 0))), vr185])]) ent30 rfl) (r02_value hr186 (digs_lm _) (by first | omega | simp) (sg_canon _)) ?_
                rintro _ w188 ⟨rfl, he189⟩
                replace hE := Below.ext hE hE.size he189
                refine RL.val rfl rfl (by decide) (r_move_as (v := (.tuple #[(.int .i64 (if (-9223372036854775808 ≤ (qs.getD (k) default).floor ∧ (qs.getD (k) default).floor ≤ 9223372036854775807) then (qs.getD (k) default).floor else 0)), (.bool (decide (-9223372036854775808 ≤ (qs.getD (k) default).floor ∧ (qs.getD (k) default).floor ≤ 9223372036854775807)))])) rfl) ?_
                refine RL.val rfl rfl (by decide) (r_extract (v := (.int .i64 (fq))) rfl (by rw [if_pos hff, ← hfq]; rfl)) ?_
                refine RL.val rfl rfl (by decide) (r_extract (v := (.bool (true))) rfl (by rw [decide_eq_true hff]; rfl)) ?_
                refine RL.val rfl rfl (by decide) (r_indexAddr (i := ((k : Nat) : Int)) Try.underlying26 ty3 rfl rfl (by omega) (by omega)) ?_
                replace hb108 := hb108.ext (Ext.trans he184 he189)
                refine RL.runs rfl rfl (h_setF (g := (gI .i64)) (vv := (.int .i64 (fq))) (u := fq) (i := ((k : Nat) : Int)) ty3 rfl rfl rfl rfl rfl hb108 (k) (by omega) (by omega)) ?_
                rintro w190 ⟨ha191, hx192⟩
                replace hE := Below.exc hE hE.size hx192 ge_b106
                have nb_hx192 := (hb108.nb (fun _ => rfl))
                replace hb108 := ha191
                refine RL.nil ?_
                refine wseq ?_
                refine wdraw mixed fun w193 he194 => ?_
                replace hE := Below.ext hE hE.size he194
                refine RA.take 0 rfl (by kernel_rfl) rfl rfl (by decide) (fun _ => r_move_as (v := (.slice (some ⟨b113, 0, none⟩) (qs.length) (qs.length))) ((hoff162 9 rfl).trans ((hF159 9).trans hs157))) ?_
                refine RA.take 1 rfl (by kernel_rfl) rfl rfl (by decide) (fun _ => r_move_as (v := (.int .i64 (((k : Nat) : Int)))) hs163) ?_
                refine RA.take 2 rfl (by kernel_rfl) rfl rfl (by decide) (fun _ => r_move_as (v := vl) ((hoff162 0 rfl).trans ((hF159 0).trans ((hoff155 0 rfl).trans ((hF102 0).trans ((hoff11 0 rfl).trans ((hF8 0).trans (hF0 0)))))))) ?_
                refine RA.take 3 rfl (by kernel_rfl) rfl rfl (by decide) (fun _ => r_move_as (v := (.int .i64 (((k : Nat) : Int)))) hs163) ?_
                replace hl := ((hl.tr (Sm.ext (Ext.trans he184 he189))).tr (Sm.exc hx192 (fun _ _ _ _ hd => absurd hd.2 (Nat.not_lt_of_le ge_b106)))).tr (Sm.ext he194)
                obtain ⟨b195, o196, c197, s200, vn201, vd202, x203, d204, hv198, hc199, hx205, lm206, ln207, hd208, lm209, ln210, eq211⟩ := hl.ix (i := ((k : Nat) : Int)) (k) (by omega) (by omega)
                refine RA.take 4 rfl (by kernel_rfl) rfl rfl (by decide) (fun _ => r_indexAddr (i := ((k : Nat) : Int)) Try.underlying37 ty42 hv198 rfl (by omega) (by omega)) ?_
                refine RA.rd 5 rfl (by kernel_rfl) rfl rfl rfl (by decide) (Ext.refl _) (fun u hu => r_loada (cs := [(.bool (s200)), vn201, vd202]) Try.underlying42 ag42 ty42 rfl (fun j v hj => cell_ext hu (hc199 j v hj))) ?_
                refine RA.take 6 rfl (by kernel_rfl) rfl rfl (by decide) (fun _ => r_move_as (v := (.slice (some ⟨b106, 0, none⟩) (qs.length) (qs.length))) ((hoff162 8 rfl).trans ((hF159 8).trans hs156))) ?_
                refine RA.take 7 rfl (by kernel_rfl) rfl rfl (by decide) (fun _ => r_move_as (v := (.int .i64 (((k : Nat) : Int)))) hs163) ?_
                refine RA.take 8 rfl (by kernel_rfl) rfl rfl (by decide) (fun _ => r_indexAddr (i := ((k : Nat) : Int)) Try.underlying26 ty3 rfl rfl (by omega) (by omega)) ?_
                replace hb108 := hb108.ext he194
                have hc212 := hb108.cell (i := ((k : Nat) : Int)) (k) (by omega) (by omega)
                rw [show ((preK (fun j => (qs.getD j default).floor) 0 qs.length k).set (k) (fq)).getD (k) default = fq from (by rw [set_at (by rw [length_preK]; omega), if_pos rfl])] at hc212
                refine RA.rd 9 rfl (by kernel_rfl) rfl rfl rfl (by decide) (Ext.refl _) (fun u hu => r_load (v := (.int .i64 (fq))) Try.underlying3 ag3 rfl (cell_ext hu hc212)) ?_
                refine RA.all [10] (by kernel_rfl) rfl ?_
                refine RS.call rfl rfl rfl (by decide) (r_call (vl := [(.int .i64 (fq))]) ent15 rfl) (r03_from (by omega)) ?_ RS.nil
                rintro _ w213 ⟨⟨vn215, vd217, rfl, hn216, hd218, hl219, hl220⟩, he214⟩
                refine ⟨.inr (.inr he214), RA.more (S' := fun u => Ext _ u) (fun u hu => Ext.trans he214 hu) ?_⟩
                have hlv221 := den_one ((fq : Int) : Rat)
                replace hn216 := hn216.mono (D' := fun b T => w.heap.size ≤ b ∧ T = 52) (fun b T h => ⟨Nat.le_trans hE.size h.1, h.2⟩)
                replace hd218 := hd218.mono (D' := fun b T => w.heap.size ≤ b ∧ T = 52) (fun b T h => ⟨Nat.le_trans hE.size h.1, h.2⟩)
                replace hE := Below.ext hE hE.size he214
                refine RA.all [11] (by kernel_rfl) rfl ?_
                replace hx205 := hx205.tr (Sm.ext he214)
                replace hd208 := hd208.tr (Sm.ext he214)
                refine RS.call rfl rfl rfl (by decide) (r_call (vl := [(.agg #[(.bool (s200)), vn201, vd202]), (.agg #[(.bool (decide (((fq : Int) : Rat).num < 0))), vn215, vd217])]) ent32 rfl) (r03_sub hx205 lm206 (by first | omega | simp) hd208 lm209 (by first | omega | simp) (show ratOf s200 (val x203) (val d204) = qs.getD (k) default from eq211) hn216 (digs_lm _) (by first | omega | simp) hd218 (digs_lm _) (by first | omega | simp) (ratOf_canon _)) ?_ RS.nil
                rintro _ w222 ⟨⟨vn224, vd226, rfl, hn225, hd227, hl228, hl229⟩, he223⟩
                refine ⟨.inr (.inr he223), RA.more (S' := fun u => Ext _ u) (fun u hu => Ext.trans he223 hu) ?_⟩
                have hlv230 := den_one ((qs.getD (k) default) - ((fq : Int) : Rat))
                replace hn225 := hn225.mono (D' := fun b T => w.heap.size ≤ b ∧ T = 52) (fun b T h => ⟨Nat.le_trans hE.size h.1, h.2⟩)
                replace hd227 := hd227.mono (D' := fun b T => w.heap.size ≤ b ∧ T = 52) (fun b T h => ⟨Nat.le_trans hE.size h.1, h.2⟩)
                replace hE := Below.ext hE hE.size he223
                refine RA.take 12 rfl (by kernel_rfl) rfl rfl (by decide) (fun _ => r_indexAddr (i := ((k : Nat) : Int)) Try.underlying37 ty42 rfl rfl (by omega) (by omega)) ?_
                refine RA.all [13] (by kernel_rfl) rfl ?_
                have hm234 := Ext.trans he194 (Ext.trans he214 he223)
                replace hb115 := ((hb115.ext (Ext.trans he184 he189)).apn hx192 (Ne.symm ne_b106_b113) nb_hx192).ext hm234
                refine RS.runs rfl rfl rfl (h_setR (i := ((k : Nat) : Int)) (q := ((qs.getD (k) default) - ((fq : Int) : Rat))) ty42 rfl rfl hb115 (Rz.of (L := 1048600) hn225 (digs_lm _) (by omega) hd227 (digs_lm _) (by omega) (ratOf_canon _)) (k) (by omega) (by omega)) ?_ RS.nil
                rintro w231 ⟨ha232, hx233⟩
                refine ⟨.inr (.inl (by kernel_rfl)), ?_⟩
                replace hE := Below.exc hE hE.size hx233 ge_b113
                have nb_hx233 := hb115.nb
                replace hb115 := ha232
                refine RA.done (by kernel_rfl) ?_
                refine wregion ?_
                refine RL.val rfl rfl (by decide) (r_move_as (v := (.int .i64 (t - flsum (qs.take k)))) hs164) ?_
                refine RL.val rfl rfl (by decide) (r_move_as (v := (.slice (some ⟨b106, 0, none⟩) (qs.length) (qs.length))) ((hoff162 8 rfl).trans ((hF159 8).trans hs156))) ?_
                refine RL.val rfl rfl (by decide) (r_move_as (v := (.int .i64 (((k : Nat) : Int)))) hs163) ?_
                refine RL.val rfl rfl (by decide) (r_indexAddr (i := ((k : Nat) : Int)) Try.underlying26 ty3 rfl rfl (by omega) (by omega)) ?_
                replace hb108 := (hb108.ext (Ext.trans he214 he223)).exc hx233 ne_b106_b113
                have hc235 := hb108.cell (i := ((k : Nat) : Int)) (k) (by omega) (by omega)
                rw [show ((preK (fun j => (qs.getD j default).floor) 0 qs.length k).set (k) (fq)).getD (k) default = fq from (by rw [set_at (by rw [length_preK]; omega), if_pos rfl])] at hc235
                refine RL.val rfl rfl (by decide) (r_load (v := (.int .i64 (fq))) Try.underlying3 ag3 rfl hc235) ?_
                refine RL.val rfl rfl (by decide) (r_sub (k := .i64) (a := t - flsum (qs.take k)) (b := fq) (c := (t - flsum (qs.take k)) - fq) rfl rfl (wi64 (by omega))) ?_
                refine RL.val rfl rfl (by decide) (r_assign_as (v := (.int .i64 ((t - flsum (qs.take k)) - fq))) rfl) ?_
                refine RL.nil ?_
                refine wregion ?_
                refine RL.val rfl rfl (by decide) (r_move_as (v := (.int .i64 (((k : Nat) : Int)))) hs163) ?_
                refine RL.val rfl rfl (by decide) (r_add (k := .i64) (a := ((k : Nat) : Int)) (b := 1) (c := ((k : Nat) : Int) + 1) rfl rfl (wi64 (by omega))) ?_
                refine RL.val rfl rfl (by decide) (r_assign_as (v := (.int .i64 (((k : Nat) : Int) + 1))) rfl) ?_
                refine RL.nil ?_
                replace hl := (hl.tr (Sm.ext (Ext.trans he214 he223))).tr (Sm.exc hx233 (fun _ _ _ _ hd => absurd hd.2 (Nat.not_lt_of_le ge_b113)))
                replace hn61 := (((hn61.tr (Sm.ext (Ext.trans he184 he189))).apn hx192 nb_hx192).tr (Sm.ext hm234)).apn hx233 nb_hx233
                replace hd63 := (((hd63.tr (Sm.ext (Ext.trans he184 he189))).apn hx192 nb_hx192).tr (Sm.ext hm234)).apn hx233 nb_hx233
                replace hb70 := (((hb70.ext (Ext.trans he184 he189)).exc hx192 (Nat.ne_of_lt lt_b68_b106)).ext hm234).exc hx233 (Nat.ne_of_lt lt_b68_b113)
                replace hr80 := (((hr80.tr (Sm.ext (Ext.trans he184 he189))).apn hx192 nb_hx192).tr (Sm.ext hm234)).apn hx233 nb_hx233
                replace hn91 := (((hn91.tr (Sm.ext (Ext.trans he184 he189))).apn hx192 nb_hx192).tr (Sm.ext hm234)).apn hx233 nb_hx233
                replace hd93 := (((hd93.tr (Sm.ext (Ext.trans he184 he189))).apn hx192 nb_hx192).tr (Sm.ext hm234)).apn hx233 nb_hx233
                refine ⟨(k + 1), ⟨?_, ?_, ?_, ?_, ?_, ?_, ?_, ?_, ?_, ?_, ?_, ?_, ?_, ?_, ?_⟩, ?_⟩
                · exact (by repeat (first | exact hoff162 | refine Off.st ?_ (by decide) _ | refine Off.via hoff155 (by decide) ?_ | refine Off.eq hF102 ?_ | refine Off.via hoff11 (by decide) ?_ | refine Off.eq hF8 ?_))
                · first | rfl | exact int_eq (by omega) | exact bool_eq (by simp)
                · exact int_eq (by rw [flsum_next hkl, ← hfq]; omega)
                · omega
                · rw [flsum_next hkl, ← hfq]; omega
                · rw [preK_set hkl hfq] at hb108; exact hb108
                · rw [preK_set hkl (by rw [hfq]; rfl)] at hb115; exact hb115
                · exact hl
                · exact hE
                · exact hn61
                · exact hd63
                · exact hb70
                · exact hr80
                · exact hn91
                · exact hd93
                · (try dsimp only)
                  omega
              · have hb165p := hb165
                replace hb165p := of_decide_eq_false hb165p
                have hkq : k = qs.length := by omega
                have hkn : qs.take k = qs := List.take_of_length_le (by omega)
                refine wexit ?_
                refine wseq ?_
                refine wblock ?_
                refine wset fun F236 hF237 => ?_
                refine wloop (σ := List Nat) (fun (M : List Nat) fl wl => Off [6, 11, 12, 90, 91, 92, 93, 94, 95, 96, 97, 98, 99, 100, 101, 102, 103, 104, 105, 106, 107, 108, 109, 110, 111, 112, 113, 114, 115, 116, 117, 118, 119, 120, 121, 122, 123, 124, 125, 126, 127, 128, 129, 130, 131, 132] F236 fl ∧ fl 6 = (.int .i64 (t - flsum qs - ((M.length : Nat) : Int))) ∧ (Seg (fun j => fr (qs.getD j default)) qs.length M) ∧ (((M.length : Nat) : Int) ≤ t - flsum qs) ∧ (Af (gI .i64) wl b106 3 (byR (outF qs M) qs.length) qs.length) ∧ (Aq 1048600 (fun b T => w.heap.size ≤ b ∧ T = 52) wl b113 42 (byR (parF qs M) qs.length) qs.length) ∧ (Rs Ll (fun b T => Dl b T ∧ b < w.heap.size) wl vl qs) ∧ (Below w.heap.size w wl) ∧ (Sg (gN .u32) (fun b T => w.heap.size ≤ b ∧ T = 52) wl vn60 (digs (rsum qs).num.natAbs)) ∧ (Sg (gN .u32) (fun b T => w.heap.size ≤ b ∧ T = 52) wl vd62 (digs (rsum qs).den)) ∧ (Bk wl b68 42 [(.bool (decide ((rsum qs).num < 0))), vn60, vd62]) ∧ (Sg (gN .u32) (fun b T => w.heap.size ≤ b ∧ T = 52) wl vr79 (digs (rsum qs).floor.natAbs)) ∧ (Sg (gN .u32) (fun b T => w.heap.size ≤ b ∧ T = 52) wl vn90 (digs ((t : Int) : Rat).num.natAbs)) ∧ (Sg (gN .u32) (fun b T => w.heap.size ≤ b ∧ T = 52) wl vd92 (digs ((t : Int) : Rat).den))) (fun (M : List Nat) => (t - flsum qs - ((M.length : Nat) : Int)).toNat) ([]) ?_ ?_
                · exact ⟨Off.refl _ _, (hF237 6).trans ((hs164).trans (int_eq (by rw [hkn]; simp))), Seg.nil _ _, (by simpa using hmis.1), (by rw [hkq, out_nil] at hb108; exact hb108), (by rw [hkq, par_nil] at hb115; exact hb115), hl, hE, hn61, hd63, hb70, hr80, hn91, hd93⟩
                · clear hl hE hn61 hd63 hb70 hr80 hn91 hd93 hb108 hb115
                  rintro M f238 w239 ⟨hoff240, hs241, hS, hM, hb108, hb115, hl, hE, hn61, hd63, hb70, hr80, hn91, hd93⟩
                  refine wseq ?_
                  refine wseq ?_
                  refine wregion ?_
                  refine RL.val rfl rfl (by decide) (r_move_as (v := (.int .i64 (t - flsum qs - ((M.length : Nat) : Int)))) hs241) ?_
                  refine RL.val rfl rfl (by decide) (r_gtr (k := .i64) (a := t - flsum qs - ((M.length : Nat) : Int)) (b := 0) rfl rfl) ?_
                  refine RL.nil ?_
                  refine wcond (b := decide (0 < (t - flsum qs - ((M.length : Nat) : Int)))) rfl (fun hb242 => ?_) (fun hb242 => ?_)
                  · have hb242p := hb242
                    replace hb242p := of_decide_eq_true hb242p
                    refine wskip ?_
                    refine wseq ?_
                    refine wblock ?_
                    refine wseq ?_
                    refine wregion ?_
                    refine RL.val rfl rfl (by decide) (r_assign_as (v := (.int .i64 (-1))) rfl) ?_
                    refine RL.nil ?_
                    refine wseq ?_
                    refine wseq ?_
                    refine wregion ?_
                    refine RL.val rfl rfl (by decide) (r_assign_as (v := (.int .i64 (0))) rfl) ?_
                    refine RL.nil ?_
                    refine wblock ?_
                    refine wset fun F243 hF244 => ?_
                    refine wloop (σ := Nat × Int) (fun (s : Nat × Int) fl wl => match s with | (k, b) => Off [11, 12, 94, 95, 96, 97, 98, 99, 100, 101, 102, 103, 104, 105, 106, 107, 108, 109, 110, 111, 112, 113, 114, 115, 116, 117, 118, 119, 120, 121, 122] F243 fl ∧ fl 12 = (.int .i64 (((k : Nat) : Int))) ∧ fl 11 = (.int .i64 (b)) ∧ (k ≤ qs.length) ∧ (Best (fun j => fr (qs.getD j default)) M k b) ∧ (Rs Ll (fun b T => Dl b T ∧ b < w.heap.size) wl vl qs) ∧ (Below w.heap.size w wl) ∧ (Sg (gN .u32) (fun b T => w.heap.size ≤ b ∧ T = 52) wl vn60 (digs (rsum qs).num.natAbs)) ∧ (Sg (gN .u32) (fun b T => w.heap.size ≤ b ∧ T = 52) wl vd62 (digs (rsum qs).den)) ∧ (Bk wl b68 42 [(.bool (decide ((rsum qs).num < 0))), vn60, vd62]) ∧ (Sg (gN .u32) (fun b T => w.heap.size ≤ b ∧ T = 52) wl vr79 (digs (rsum qs).floor.natAbs)) ∧ (Sg (gN .u32) (fun b T => w.heap.size ≤ b ∧ T = 52) wl vn90 (digs ((t : Int) : Rat).num.natAbs)) ∧ (Sg (gN .u32) (fun b T => w.heap.size ≤ b ∧ T = 52) wl vd92 (digs ((t : Int) : Rat).den)) ∧ (Af (gI .i64) wl b106 3 (byR (outF qs M) qs.length) qs.length) ∧ (Aq 1048600 (fun b T => w.heap.size ≤ b ∧ T = 52) wl b113 42 (byR (parF qs M) qs.length) qs.length)) (fun (s : Nat × Int) => match s with | (k, b) => qs.length - k) (0, -1) ?_ ?_
                    · exact ⟨Off.refl _ _, (hF244 12).trans (rfl), (hF244 11).trans (rfl), Nat.zero_le _, Best.zero _ _, hl, hE, hn61, hd63, hb70, hr80, hn91, hd93, hb108, hb115⟩
                    · clear hl hE hn61 hd63 hb70 hr80 hn91 hd93 hb108 hb115
                      rintro ⟨k, b⟩ f245 w246 ⟨hoff247, hs248, hs249, hk, hB, hl, hE, hn61, hd63, hb70, hr80, hn91, hd93, hb108, hb115⟩
                      refine wseq ?_
                      refine wseq ?_
                      refine wregion ?_
                      refine RL.val rfl rfl (by decide) (r_move_as (v := (.int .i64 (((k : Nat) : Int)))) hs248) ?_
                      refine RL.val rfl rfl (by decide) (r_move_as (v := vl) ((hoff247 0 rfl).trans ((hF244 0).trans ((hoff240 0 rfl).trans ((hF237 0).trans ((hoff162 0 rfl).trans ((hF159 0).trans ((hoff155 0 rfl).trans ((hF102 0).trans ((hoff11 0 rfl).trans ((hF8 0).trans (hF0 0)))))))))))) ?_
                      refine RL.val rfl rfl (by decide) (r_len Try.underlying37 hv3) ?_
                      refine RL.val rfl rfl (by decide) (r_lss (k := .i64) (a := ((k : Nat) : Int)) (b := ((qs.length : Nat) : Int)) rfl rfl) ?_
                      refine RL.nil ?_
                      refine wcond (b := decide (((k : Nat) : Int) < ((qs.length : Nat) : Int))) rfl (fun hb250 => ?_) (fun hb250 => ?_)
                      · have hb250p := hb250
                        replace hb250p := of_decide_eq_true hb250p
                        refine wskip ?_
                        refine wseq ?_
                        refine wblock ?_
                        refine wseq ?_
                        have hkl : k < qs.length := by omega
                        have hbr := best_rng hB
                        refine wdraw mixed fun w251 he252 => ?_
                        replace hE := Below.ext hE hE.size he252
                        refine RA.take 0 rfl (by kernel_rfl) rfl rfl (by decide) (fun _ => r_move_as (v := (.slice (some ⟨b113, 0, none⟩) (qs.length) (qs.length))) ((hoff247 9 rfl).trans ((hF244 9).trans ((hoff240 9 rfl).trans ((hF237 9).trans ((hoff162 9 rfl).trans ((hF159 9).trans hs157))))))) ?_
                        refine RA.take 1 rfl (by kernel_rfl) rfl rfl (by decide) (fun _ => r_move_as (v := (.int .i64 (((k : Nat) : Int)))) hs248) ?_
                        refine RA.take 2 rfl (by kernel_rfl) rfl rfl (by decide) (fun _ => r_indexAddr (i := ((k : Nat) : Int)) Try.underlying37 ty42 rfl rfl (by omega) (by omega)) ?_
                        replace hb115 := hb115.ext he252
                        obtain ⟨s254, vn255, vd256, x257, d258, hc253, hx259, lm260, ln261, hd262, lm263, ln264, eq265⟩ := hb115.ix (i := ((k : Nat) : Int)) (k) (by omega) (by omega)
                        refine RA.rd 3 rfl (by kernel_rfl) rfl rfl rfl (by decide) (Ext.refl _) (fun u hu => r_loada (cs := [(.bool (s254)), vn255, vd256]) Try.underlying42 ag42 ty42 rfl (fun j v hj => cell_ext hu (hc253 j v hj))) ?_
                        refine RA.all [4] (by kernel_rfl) rfl ?_
                        refine RS.call rfl rfl rfl (by decide) (r_call (vl := [(.agg #[(.bool (s254)), vn255, vd256])]) ent33 rfl) (r03_sign hx259 lm260 (by first | omega | simp) hd262 lm263 (by first | omega | simp) (show ratOf s254 (val x257) (val d258) = (byR (parF qs M) qs.length).getD (k) default from eq265)) ?_ RS.nil
                        rintro _ w266 ⟨rfl, he267⟩
                        refine ⟨.inr (.inr he267), RA.more (S' := fun u => Ext _ u) (fun u hu => Ext.trans he267 hu) ?_⟩
                        replace hE := Below.ext hE hE.size he267
                        refine RA.take 5 rfl (by kernel_rfl) rfl rfl (by decide) (fun _ => r_geq (k := .i64) (a := Int.sign ((byR (parF qs M) qs.length).getD (k) default).num) (b := 0) rfl rfl) ?_
                        refine RA.take 6 rfl (by kernel_rfl) rfl rfl (by decide) (fun _ => r_move_as (v := (.bool (decide (0 ≤ (Int.sign ((byR (parF qs M) qs.length).getD (k) default).num))))) rfl) ?_
                        rcases Bool.eq_false_or_eq_true (decide (0 ≤ (Int.sign ((byR (parF qs M) qs.length).getD (k) default).num))) with hb268 | hb268
                        · have hb268p := hb268
                          replace hb268p := of_decide_eq_true hb268p
                          have hkM : k ∉ M := (par_sign hkl).1 hb268p
                          refine RA.gtake 7 rfl (by kernel_rfl) rfl rfl (bool_eq hb268) rfl (by decide) (fun _ => r_move_as (v := (.int .i64 (b))) hs249) ?_
                          refine RA.gtake 8 rfl (by kernel_rfl) rfl rfl (bool_eq hb268) rfl (by decide) (fun _ => r_lss (k := .i64) (a := b) (b := 0) rfl rfl) ?_
                          refine RA.gtake 9 rfl (by kernel_rfl) rfl rfl (bool_eq hb268) rfl (by decide) (fun _ => r_move_as (v := (.bool (decide (b < 0)))) rfl) ?_
                          rcases Bool.eq_false_or_eq_true (decide (b < 0)) with hb269 | hb269
                          · have hb269p := hb269
                            replace hb269p := of_decide_eq_true hb269p
                            have hb0 : b < 0 := hb269p
                            refine RA.gno 10 rfl (by kernel_rfl) rfl rfl (.inl (bool_eq hb269)) rfl (by decide) ?_
                            refine RA.gno 11 rfl (by kernel_rfl) rfl rfl (.inl (bool_eq hb269)) rfl (by decide) ?_
                            refine RA.gno 12 rfl (by kernel_rfl) rfl rfl (.inl (bool_eq hb269)) rfl (by decide) ?_
                            refine RA.gno 13 rfl (by kernel_rfl) rfl rfl (.inl (bool_eq hb269)) rfl (by decide) ?_
                            refine RA.gno 14 rfl (by kernel_rfl) rfl rfl (.inl (bool_eq hb269)) rfl (by decide) ?_
                            refine RA.gno 15 rfl (by kernel_rfl) rfl rfl (.inl (bool_eq hb269)) rfl (by decide) ?_
                            refine RA.gno 16 rfl (by kernel_rfl) rfl rfl (.inl (bool_eq hb269)) rfl (by decide) ?_
                            refine RA.gno 17 rfl (by kernel_rfl) rfl rfl (.inl (bool_eq hb269)) rfl (by decide) ?_
                            refine RA.all [18] (by kernel_rfl) rfl ?_
                            refine RS.gno rfl rfl rfl (.inl (bool_eq hb269)) rfl (by decide) (.inr (.inl (by kernel_rfl))) ?_ RS.nil
                            refine RA.gno 19 rfl (by kernel_rfl) rfl rfl (.inl (bool_eq hb269)) rfl (by decide) ?_
                            refine RA.gtake 20 rfl (by kernel_rfl) rfl rfl (bool_eq hb268) rfl (by decide) (fun _ => r_pick_t (v := (.bool (true))) (bool_eq hb269) rfl) ?_
                            refine RA.take 21 rfl (by kernel_rfl) rfl rfl (by decide) (fun _ => r_pick_t (v := (.bool (true))) (bool_eq hb268) rfl) ?_
                            refine RA.done (by kernel_rfl) ?_
                            refine wcond_t rfl ?_
                            refine wregion ?_
                            refine RL.val rfl rfl (by decide) (r_move_as (v := (.int .i64 (((k : Nat) : Int)))) hs248) ?_
                            refine RL.val rfl rfl (by decide) (r_assign_as (v := (.int .i64 (((k : Nat) : Int)))) rfl) ?_
                            refine RL.nil ?_
                            refine wregion ?_
                            refine RL.val rfl rfl (by decide) (r_move_as (v := (.int .i64 (((k : Nat) : Int)))) hs248) ?_
                            refine RL.val rfl rfl (by decide) (r_add (k := .i64) (a := ((k : Nat) : Int)) (b := 1) (c := ((k : Nat) : Int) + 1) rfl rfl (wi64 (by omega))) ?_
                            refine RL.val rfl rfl (by decide) (r_assign_as (v := (.int .i64 (((k : Nat) : Int) + 1))) rfl) ?_
                            refine RL.nil ?_
                            replace hl := hl.tr (Sm.ext (Ext.trans he252 he267))
                            replace hn61 := hn61.tr (Sm.ext (Ext.trans he252 he267))
                            replace hd63 := hd63.tr (Sm.ext (Ext.trans he252 he267))
                            replace hb70 := hb70.ext (Ext.trans he252 he267)
                            replace hr80 := hr80.tr (Sm.ext (Ext.trans he252 he267))
                            replace hn91 := hn91.tr (Sm.ext (Ext.trans he252 he267))
                            replace hd93 := hd93.tr (Sm.ext (Ext.trans he252 he267))
                            replace hb108 := hb108.ext (Ext.trans he252 he267)
                            replace hb115 := hb115.ext he267
                            refine ⟨(k + 1, ((k : Nat) : Int)), ⟨?_, ?_, ?_, ?_, ?_, ?_, ?_, ?_, ?_, ?_, ?_, ?_, ?_, ?_, ?_⟩, ?_⟩
                            · exact (by repeat (first | exact hoff247 | refine Off.st ?_ (by decide) _ | refine Off.via hoff240 (by decide) ?_ | refine Off.eq hF237 ?_ | refine Off.via hoff162 (by decide) ?_ | refine Off.eq hF159 ?_ | refine Off.via hoff155 (by decide) ?_ | refine Off.eq hF102 ?_ | refine Off.via hoff11 (by decide) ?_ | refine Off.eq hF8 ?_))
                            · first | rfl | exact int_eq (by omega) | exact bool_eq (by simp)
                            · first | rfl | exact int_eq (by omega) | exact bool_eq (by simp)
                            · omega
                            · first | exact hB.take hkM (.inl (by omega)) | exact hB.take hkM (.inr (by rw [← par_at_n hkM hkl, ← par_at_n hbM hbl]; exact cmpQ_pos.1 hcm))
                            · exact hl
                            · exact hE
                            · exact hn61
                            · exact hd63
                            · exact hb70
                            · exact hr80
                            · exact hn91
                            · exact hd93
                            · exact hb108
                            · exact hb115
                            · (try dsimp only)
                              omega
                          · have hb269p := hb269
                            replace hb269p := of_decide_eq_false hb269p
                            obtain ⟨hbt, hbk, hbM⟩ := best_in hB hb269p
                            have hbl : b.toNat < qs.length := by omega
                            refine RA.gtake 10 rfl (by kernel_rfl) rfl rfl (bool_eq hb269) rfl (by decide) (fun _ => r_move_as (v := (.slice (some ⟨b113, 0, none⟩) (qs.length) (qs.length))) ((hoff247 9 rfl).trans ((hF244 9).trans ((hoff240 9 rfl).trans ((hF237 9).trans ((hoff162 9 rfl).trans ((hF159 9).trans hs157))))))) ?_
                            refine RA.gtake 11 rfl (by kernel_rfl) rfl rfl (bool_eq hb269) rfl (by decide) (fun _ => r_move_as (v := (.int .i64 (((k : Nat) : Int)))) hs248) ?_
                            refine RA.gtake 12 rfl (by kernel_rfl) rfl rfl (bool_eq hb269) rfl (by decide) (fun _ => r_indexAddr (i := ((k : Nat) : Int)) Try.underlying37 ty42 rfl rfl (by omega) (by omega)) ?_
                            replace hb115 := hb115.ext he267
                            obtain ⟨s271, vn272, vd273, x274, d275, hc270, hx276, lm277, ln278, hd279, lm280, ln281, eq282⟩ := hb115.ix (i := ((k : Nat) : Int)) (k) (by omega) (by omega)
                            refine RA.grd 13 rfl (by kernel_rfl) rfl rfl rfl (bool_eq hb269) rfl (by decide) (Ext.refl _) (fun u hu => r_loada (cs := [(.bool (s271)), vn272, vd273]) Try.underlying42 ag42 ty42 rfl (fun j v hj => cell_ext hu (hc270 j v hj))) ?_
                            refine RA.gtake 14 rfl (by kernel_rfl) rfl rfl (bool_eq hb269) rfl (by decide) (fun _ => r_move_as (v := (.slice (some ⟨b113, 0, none⟩) (qs.length) (qs.length))) ((hoff247 9 rfl).trans ((hF244 9).trans ((hoff240 9 rfl).trans ((hF237 9).trans ((hoff162 9 rfl).trans ((hF159 9).trans hs157))))))) ?_
                            refine RA.gtake 15 rfl (by kernel_rfl) rfl rfl (bool_eq hb269) rfl (by decide) (fun _ => r_move_as (v := (.int .i64 (b))) hs249) ?_
                            refine RA.gtake 16 rfl (by kernel_rfl) rfl rfl (bool_eq hb269) rfl (by decide) (fun _ => r_indexAddr (i := b) Try.underlying37 ty42 rfl rfl (by omega) (by omega)) ?_
                            obtain ⟨s284, vn285, vd286, x287, d288, hc283, hx289, lm290, ln291, hd292, lm293, ln294, eq295⟩ := hb115.ix (i := b) (b.toNat) (by omega) (by omega)
                            refine RA.grd 17 rfl (by kernel_rfl) rfl rfl rfl (bool_eq hb269) rfl (by decide) (Ext.refl _) (fun u hu => r_loada (cs := [(.bool (s284)), vn285, vd286]) Try.underlying42 ag42 ty42 rfl (fun j v hj => cell_ext hu (hc283 j v hj))) ?_
                            refine RA.all [18] (by kernel_rfl) rfl ?_
                            refine RS.gcall rfl rfl rfl (bool_eq hb269) rfl (by decide) (r_call (vl := [(.agg #[(.bool (s271)), vn272, vd273]), (.agg #[(.bool (s284)), vn285, vd286])]) ent27 rfl) (r03_compare hx276 lm277 (by first | omega | simp) hd279 lm280 (by first | omega | simp) (show ratOf s271 (val x274) (val d275) = (byR (parF qs M) qs.length).getD (k) default from eq282) hx289 lm290 (by first | omega | simp) hd292 lm293 (by first | omega | simp) (show ratOf s284 (val x287) (val d288) = (byR (parF qs M) qs.length).getD (b.toNat) default from eq295)) ?_ RS.nil
                            rintro _ w296 ⟨rfl, he297⟩
                            refine ⟨.inr (.inr he297), RA.more (S' := fun u => Ext _ u) (fun u hu => Ext.trans he297 hu) ?_⟩
                            replace hE := Below.ext hE hE.size he297
                            refine RA.gtake 19 rfl (by kernel_rfl) rfl rfl (bool_eq hb269) rfl (by decide) (fun _ => r_gtr (k := .i64) (a := cmpQ ((byR (parF qs M) qs.length).getD (k) default) ((byR (parF qs M) qs.length).getD (b.toNat) default)) (b := 0) rfl rfl) ?_
                            refine RA.gtake 20 rfl (by kernel_rfl) rfl rfl (bool_eq hb268) rfl (by decide) (fun _ => r_pick_f (v := (.bool (decide (0 < (cmpQ ((byR (parF qs M) qs.length).getD (k) default) ((byR (parF qs M) qs.length).getD (b.toNat) default)))))) (bool_eq hb269) rfl) ?_
                            refine RA.take 21 rfl (by kernel_rfl) rfl rfl (by decide) (fun _ => r_pick_t (v := (.bool (decide (0 < (cmpQ ((byR (parF qs M) qs.length).getD (k) default) ((byR (parF qs M) qs.length).getD (b.toNat) default)))))) (bool_eq hb268) rfl) ?_
                            refine RA.done (by kernel_rfl) ?_
                            refine wcond (b := decide (0 < (cmpQ ((byR (parF qs M) qs.length).getD (k) default) ((byR (parF qs M) qs.length).getD (b.toNat) default)))) rfl (fun hb298 => ?_) (fun hb298 => ?_)
                            · have hb298p := hb298
                              replace hb298p := of_decide_eq_true hb298p
                              have hcm := hb298p
                              refine wregion ?_
                              refine RL.val rfl rfl (by decide) (r_move_as (v := (.int .i64 (((k : Nat) : Int)))) hs248) ?_
                              refine RL.val rfl rfl (by decide) (r_assign_as (v := (.int .i64 (((k : Nat) : Int)))) rfl) ?_
                              refine RL.nil ?_
                              refine wregion ?_
                              refine RL.val rfl rfl (by decide) (r_move_as (v := (.int .i64 (((k : Nat) : Int)))) hs248) ?_
                              refine RL.val rfl rfl (by decide) (r_add (k := .i64) (a := ((k : Nat) : Int)) (b := 1) (c := ((k : Nat) : Int) + 1) rfl rfl (wi64 (by omega))) ?_
                              refine RL.val rfl rfl (by decide) (r_assign_as (v := (.int .i64 (((k : Nat) : Int) + 1))) rfl) ?_
                              refine RL.nil ?_
                              have hm299 := Ext.trans he252 (Ext.trans he267 he297)
                              replace hl := hl.tr (Sm.ext hm299)
                              replace hn61 := hn61.tr (Sm.ext hm299)
                              replace hd63 := hd63.tr (Sm.ext hm299)
                              replace hb70 := hb70.ext hm299
                              replace hr80 := hr80.tr (Sm.ext hm299)
                              replace hn91 := hn91.tr (Sm.ext hm299)
                              replace hd93 := hd93.tr (Sm.ext hm299)
                              replace hb108 := hb108.ext hm299
                              replace hb115 := hb115.ext he297
                              refine ⟨(k + 1, ((k : Nat) : Int)), ⟨?_, ?_, ?_, ?_, ?_, ?_, ?_, ?_, ?_, ?_, ?_, ?_, ?_, ?_, ?_⟩, ?_⟩
                              · exact (by repeat (first | exact hoff247 | refine Off.st ?_ (by decide) _ | refine Off.via hoff240 (by decide) ?_ | refine Off.eq hF237 ?_ | refine Off.via hoff162 (by decide) ?_ | refine Off.eq hF159 ?_ | refine Off.via hoff155 (by decide) ?_ | refine Off.eq hF102 ?_ | refine Off.via hoff11 (by decide) ?_ | refine Off.eq hF8 ?_))
                              · first | rfl | exact int_eq (by omega) | exact bool_eq (by simp)
                              · first | rfl | exact int_eq (by omega) | exact bool_eq (by simp)
                              · omega
                              · first | exact hB.take hkM (.inl (by omega)) | exact hB.take hkM (.inr (by rw [← par_at_n hkM hkl, ← par_at_n hbM hbl]; exact cmpQ_pos.1 hcm))
                              · exact hl
                              · exact hE
                              · exact hn61
                              · exact hd63
                              · exact hb70
                              · exact hr80
                              · exact hn91
                              · exact hd93
                              · exact hb108
                              · exact hb115
                              · (try dsimp only)
                                omega
                            · have hb298p := hb298
                              replace hb298p := of_decide_eq_false hb298p
                              have hcm := hb298p
                              refine wskip ?_
                              refine wregion ?_
                              refine RL.val rfl rfl (by decide) (r_move_as (v := (.int .i64 (((k : Nat) : Int)))) hs248) ?_
                              refine RL.val rfl rfl (by decide) (r_add (k := .i64) (a := ((k : Nat) : Int)) (b := 1) (c := ((k : Nat) : Int) + 1) rfl rfl (wi64 (by omega))) ?_
                              refine RL.val rfl rfl (by decide) (r_assign_as (v := (.int .i64 (((k : Nat) : Int) + 1))) rfl) ?_
                              refine RL.nil ?_
                              have hm300 := Ext.trans he252 (Ext.trans he267 he297)
                              replace hl := hl.tr (Sm.ext hm300)
                              replace hn61 := hn61.tr (Sm.ext hm300)
                              replace hd63 := hd63.tr (Sm.ext hm300)
                              replace hb70 := hb70.ext hm300
                              replace hr80 := hr80.tr (Sm.ext hm300)
                              replace hn91 := hn91.tr (Sm.ext hm300)
                              replace hd93 := hd93.tr (Sm.ext hm300)
                              replace hb108 := hb108.ext hm300
                              replace hb115 := hb115.ext he297
                              refine ⟨(k + 1, b), ⟨?_, ?_, ?_, ?_, ?_, ?_, ?_, ?_, ?_, ?_, ?_, ?_, ?_, ?_, ?_⟩, ?_⟩
                              · exact (by repeat (first | exact hoff247 | refine Off.st ?_ (by decide) _ | refine Off.via hoff240 (by decide) ?_ | refine Off.eq hF237 ?_ | refine Off.via hoff162 (by decide) ?_ | refine Off.eq hF159 ?_ | refine Off.via hoff155 (by decide) ?_ | refine Off.eq hF102 ?_ | refine Off.via hoff11 (by decide) ?_ | refine Off.eq hF8 ?_))
                              · first | rfl | exact int_eq (by omega) | exact bool_eq (by simp)
                              · refine (hs249).trans ?_
                                first | rfl | exact int_eq (by omega) | exact bool_eq (by simp)
                              · omega
                              · first | exact hB.skip hkM | (rw [hbt] at hB ⊢; exact hB.keep (by rw [← par_at_n hkM hkl, ← par_at_n hbM hbl]; exact fun h => hcm (cmpQ_pos.2 h)))
                              · exact hl
                              · exact hE
                              · exact hn61
                              · exact hd63
                              · exact hb70
                              · exact hr80
                              · exact hn91
                              · exact hd93
                              · exact hb108
                              · exact hb115
                              · (try dsimp only)
                                omega
                        · have hb268p := hb268
                          replace hb268p := of_decide_eq_false hb268p
                          have hkM : k ∈ M := Classical.byContradiction fun h => hb268p ((par_sign hkl).2 h)
                          refine RA.gno 7 rfl (by kernel_rfl) rfl rfl (.inl (bool_eq hb268)) rfl (by decide) ?_
                          refine RA.gno 8 rfl (by kernel_rfl) rfl rfl (.inl (bool_eq hb268)) rfl (by decide) ?_
                          refine RA.gno 9 rfl (by kernel_rfl) rfl rfl (.inl (bool_eq hb268)) rfl (by decide) ?_
                          refine RA.gno 10 rfl (by kernel_rfl) rfl rfl (.inr rfl) rfl (by decide) ?_
                          refine RA.gno 11 rfl (by kernel_rfl) rfl rfl (.inr rfl) rfl (by decide) ?_
                          refine RA.gno 12 rfl (by kernel_rfl) rfl rfl (.inr rfl) rfl (by decide) ?_
                          refine RA.gno 13 rfl (by kernel_rfl) rfl rfl (.inr rfl) rfl (by decide) ?_
                          refine RA.gno 14 rfl (by kernel_rfl) rfl rfl (.inr rfl) rfl (by decide) ?_
                          refine RA.gno 15 rfl (by kernel_rfl) rfl rfl (.inr rfl) rfl (by decide) ?_
                          refine RA.gno 16 rfl (by kernel_rfl) rfl rfl (.inr rfl) rfl (by decide) ?_
                          refine RA.gno 17 rfl (by kernel_rfl) rfl rfl (.inr rfl) rfl (by decide) ?_
                          refine RA.all [18] (by kernel_rfl) rfl ?_
                          refine RS.gno rfl rfl rfl (.inr rfl) rfl (by decide) (.inr (.inl (by kernel_rfl))) ?_ RS.nil
                          refine RA.gno 19 rfl (by kernel_rfl) rfl rfl (.inr rfl) rfl (by decide) ?_
                          refine RA.gno 20 rfl (by kernel_rfl) rfl rfl (.inl (bool_eq hb268)) rfl (by decide) ?_
                          refine RA.take 21 rfl (by kernel_rfl) rfl rfl (by decide) (fun _ => r_pick_f (v := (.bool (false))) (bool_eq hb268) rfl) ?_
                          refine RA.done (by kernel_rfl) ?_
                          refine wcond_f rfl ?_
                          refine wskip ?_
                          refine wregion ?_
                          refine RL.val rfl rfl (by decide) (r_move_as (v := (.int .i64 (((k : Nat) : Int)))) hs248) ?_
                          refine RL.val rfl rfl (by decide) (r_add (k := .i64) (a := ((k : Nat) : Int)) (b := 1) (c := ((k : Nat) : Int) + 1) rfl rfl (wi64 (by omega))) ?_
                          refine RL.val rfl rfl (by decide) (r_assign_as (v := (.int .i64 (((k : Nat) : Int) + 1))) rfl) ?_
                          refine RL.nil ?_
                          replace hl := hl.tr (Sm.ext (Ext.trans he252 he267))
                          replace hn61 := hn61.tr (Sm.ext (Ext.trans he252 he267))
                          replace hd63 := hd63.tr (Sm.ext (Ext.trans he252 he267))
                          replace hb70 := hb70.ext (Ext.trans he252 he267)
                          replace hr80 := hr80.tr (Sm.ext (Ext.trans he252 he267))
                          replace hn91 := hn91.tr (Sm.ext (Ext.trans he252 he267))
                          replace hd93 := hd93.tr (Sm.ext (Ext.trans he252 he267))
                          replace hb108 := hb108.ext (Ext.trans he252 he267)
                          replace hb115 := hb115.ext he267
                          refine ⟨(k + 1, b), ⟨?_, ?_, ?_, ?_, ?_, ?_, ?_, ?_, ?_, ?_, ?_, ?_, ?_, ?_, ?_⟩, ?_⟩
                          · exact (by repeat (first | exact hoff247 | refine Off.st ?_ (by decide) _ | refine Off.via hoff240 (by decide) ?_ | refine Off.eq hF237 ?_ | refine Off.via hoff162 (by decide) ?_ | refine Off.eq hF159 ?_ | refine Off.via hoff155 (by decide) ?_ | refine Off.eq hF102 ?_ | refine Off.via hoff11 (by decide) ?_ | refine Off.eq hF8 ?_))
                          · first | rfl | exact int_eq (by omega) | exact bool_eq (by simp)
                          · refine (hs249).trans ?_
                            first | rfl | exact int_eq (by omega) | exact bool_eq (by simp)
                          · omega
                          · first | exact hB.skip hkM | (rw [hbt] at hB ⊢; exact hB.keep (by rw [← par_at_n hkM hkl, ← par_at_n hbM hbl]; exact fun h => hcm (cmpQ_pos.2 h)))
                          · exact hl
                          · exact hE
                          · exact hn61
                          · exact hd63
                          · exact hb70
                          · exact hr80
                          · exact hn91
                          · exact hd93
                          · exact hb108
                          · exact hb115
                          · (try dsimp only)
                            omega
                      · have hb250p := hb250
                        replace hb250p := of_decide_eq_false hb250p
                        refine wexit ?_
                        refine wseq ?_
                        have hkn : k = qs.length := by omega
                        rw [hkn] at hB
                        obtain ⟨c, hbc, hcn, hcM, hseg⟩ := hB.fin hS (by omega)
                        have hfb := floor_bd (hqs c hcn)
                        obtain ⟨oc, hoc⟩ : ∃ z, z = (qs.getD c default).floor := ⟨_, rfl⟩
                        rw [← hoc] at hfb
                        refine wregion ?_
                        refine RL.val rfl rfl (by decide) (r_move_as (v := (.slice (some ⟨b106, 0, none⟩) (qs.length) (qs.length))) ((hoff247 8 rfl).trans ((hF244 8).trans ((hoff240 8 rfl).trans ((hF237 8).trans ((hoff162 8 rfl).trans ((hF159 8).trans hs156))))))) ?_
                        refine RL.val rfl rfl (by decide) (r_move_as (v := (.int .i64 (b))) hs249) ?_
                        refine RL.val rfl rfl (by decide) (r_indexAddr (i := b) Try.underlying26 ty3 rfl rfl (by omega) (by omega)) ?_
                        have hc301 := hb108.cell (i := b) (c) (by omega) (by omega)
                        rw [show (byR (outF qs M) qs.length).getD (c) default = oc from (by rw [byR_at hcn]; unfold outF; rw [if_neg hcM, hoc]; omega)] at hc301
                        refine RL.val rfl rfl (by decide) (r_load (v := (.int .i64 (oc))) Try.underlying3 ag3 rfl hc301) ?_
                        refine RL.val rfl rfl (by decide) (r_add (k := .i64) (a := oc) (b := 1) (c := oc + 1) rfl rfl (wi64 (by omega))) ?_
                        refine RL.val rfl rfl (by decide) (r_indexAddr (i := b) Try.underlying26 ty3 rfl rfl (by omega) (by omega)) ?_
                        refine RL.runs rfl rfl (h_setF (g := (gI .i64)) (vv := (.int .i64 (oc + 1))) (u := oc + 1) (i := b) ty3 rfl rfl rfl rfl rfl hb108 (c) (by omega) (by omega)) ?_
                        rintro w302 ⟨ha303, hx304⟩
                        replace hE := Below.exc hE hE.size hx304 ge_b106
                        have nb_hx304 := (hb108.nb (fun _ => rfl))
                        replace hb108 := ha303
                        refine RL.nil ?_
                        refine wregion ?_
                        refine RL.val rfl rfl (by decide) (r_move_as (v := (.slice (some ⟨b113, 0, none⟩) (qs.length) (qs.length))) ((hoff247 9 rfl).trans ((hF244 9).trans ((hoff240 9 rfl).trans ((hF237 9).trans ((hoff162 9 rfl).trans ((hF159 9).trans hs157))))))) ?_
                        refine RL.val rfl rfl (by decide) (r_move_as (v := (.int .i64 (b))) hs249) ?_
                        refine RL.call rfl rfl (by decide) (r_call (vl := [(.int .i64 (-1))]) ent15 rfl) (r03_from (by omega)) ?_
                        rintro _ w305 ⟨⟨vn307, vd309, rfl, hn308, hd310, hl311, hl312⟩, he306⟩
                        have hlv313 := den_one (((-1) : Int) : Rat)
                        replace hn308 := hn308.mono (D' := fun b T => w.heap.size ≤ b ∧ T = 52) (fun b T h => ⟨Nat.le_trans hE.size h.1, h.2⟩)
                        replace hd310 := hd310.mono (D' := fun b T => w.heap.size ≤ b ∧ T = 52) (fun b T h => ⟨Nat.le_trans hE.size h.1, h.2⟩)
                        replace hE := Below.ext hE hE.size he306
                        refine RL.val rfl rfl (by decide) (r_indexAddr (i := b) Try.underlying37 ty42 rfl rfl (by omega) (by omega)) ?_
                        replace hb115 := (hb115.apn hx304 (Ne.symm ne_b106_b113) nb_hx304).ext he306
                        refine RL.runs rfl rfl (h_setR (i := b) (q := (((-1) : Int) : Rat)) ty42 rfl rfl hb115 (Rz.of (L := 1048600) hn308 (digs_lm _) (by omega) hd310 (digs_lm _) (by omega) (ratOf_canon _)) (c) (by omega) (by omega)) ?_
                        rintro w314 ⟨ha315, hx316⟩
                        replace hE := Below.exc hE hE.size hx316 ge_b113
                        have nb_hx316 := hb115.nb
                        replace hb115 := ha315
                        refine RL.nil ?_
                        refine wregion ?_
                        refine RL.val rfl rfl (by decide) (r_move_as (v := (.int .i64 (t - flsum qs - ((M.length : Nat) : Int)))) ((hoff247 6 rfl).trans ((hF244 6).trans hs241))) ?_
                        refine RL.val rfl rfl (by decide) (r_sub (k := .i64) (a := t - flsum qs - ((M.length : Nat) : Int)) (b := 1) (c := (t - flsum qs - ((M.length : Nat) : Int)) - 1) rfl rfl (wi64 (by omega))) ?_
                        refine RL.val rfl rfl (by decide) (r_assign_as (v := (.int .i64 ((t - flsum qs - ((M.length : Nat) : Int)) - 1))) rfl) ?_
                        refine RL.nil ?_
                        replace hb108 := (hb108.ext he306).exc hx316 ne_b106_b113
                        replace hl := ((hl.tr (Sm.exc hx304 (fun _ _ _ _ hd => absurd hd.2 (Nat.not_lt_of_le ge_b106)))).tr (Sm.ext he306)).tr (Sm.exc hx316 (fun _ _ _ _ hd => absurd hd.2 (Nat.not_lt_of_le ge_b113)))
                        replace hn61 := ((hn61.apn hx304 nb_hx304).tr (Sm.ext he306)).apn hx316 nb_hx316
                        replace hd63 := ((hd63.apn hx304 nb_hx304).tr (Sm.ext he306)).apn hx316 nb_hx316
                        replace hb70 := ((hb70.exc hx304 (Nat.ne_of_lt lt_b68_b106)).ext he306).exc hx316 (Nat.ne_of_lt lt_b68_b113)
                        replace hr80 := ((hr80.apn hx304 nb_hx304).tr (Sm.ext he306)).apn hx316 nb_hx316
                        replace hn91 := ((hn91.apn hx304 nb_hx304).tr (Sm.ext he306)).apn hx316 nb_hx316
                        replace hd93 := ((hd93.apn hx304 nb_hx304).tr (Sm.ext he306)).apn hx316 nb_hx316
                        refine ⟨(M ++ [c]), ⟨?_, ?_, ?_, ?_, ?_, ?_, ?_, ?_, ?_, ?_, ?_, ?_, ?_, ?_⟩, ?_⟩
                        · exact (by repeat (first | exact hoff240 | refine Off.st ?_ (by decide) _ | refine Off.via hoff247 (by decide) ?_ | refine Off.eq hF244 ?_ | refine Off.via hoff162 (by decide) ?_ | refine Off.eq hF159 ?_ | refine Off.via hoff155 (by decide) ?_ | refine Off.eq hF102 ?_ | refine Off.via hoff11 (by decide) ?_ | refine Off.eq hF8 ?_))
                        · exact int_eq (by rw [List.length_append, List.length_singleton]; omega)
                        · exact hseg
                        · rw [List.length_append, List.length_singleton]; omega
                        · rw [out_set hcn hcM (by rw [hoc])] at hb108; exact hb108
                        · rw [par_set hcn] at hb115; exact hb115
                        · exact hl
                        · exact hE
                        · exact hn61
                        · exact hd63
                        · exact hb70
                        · exact hr80
                        · exact hn91
                        · exact hd93
                        · (try dsimp only)
                          rw [List.length_append, List.length_singleton]
                          omega
                  · have hb242p := hb242
                    replace hb242p := of_decide_eq_false hb242p
                    refine wexit ?_
                    refine wseq ?_
                    have hend : ((M.length : Nat) : Int) = t - flsum qs := by omega
                    refine wregion ?_
                    refine RL.val rfl rfl (by decide) (r_move_as (v := (.slice (some ⟨b106, 0, none⟩) (qs.length) (qs.length))) ((hoff240 8 rfl).trans ((hF237 8).trans ((hoff162 8 rfl).trans ((hF159 8).trans hs156))))) ?_
                    refine RL.val rfl rfl (by decide) (r_assign_as (v := (.slice (some ⟨b106, 0, none⟩) (qs.length) (qs.length))) rfl) ?_
                    refine RL.val rfl rfl (by decide) (r_assign_as (v := (.int .i64 (0))) rfl) ?_
                    refine RL.nil ?_
                    refine wret ?_
                    refine ⟨[(.slice (some ⟨b106, 0, none⟩) (qs.length) (qs.length)), (.int .i64 (0))], ⟨rfl, ⟨rfl, trivial⟩⟩, ?_⟩
                    rw [app_end hS hend] at hb108
                    exact ⟨⟨_, rfl, hb108.sg (by omega) ge_b106⟩, hE⟩

end Go.Proofs.Ytppgppnkhpjlpaa
