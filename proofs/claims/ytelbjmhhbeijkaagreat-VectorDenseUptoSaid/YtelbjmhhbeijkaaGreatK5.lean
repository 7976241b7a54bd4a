/- VectorDense, second form: for arguments of bulk at most 1048576 the law returns true and the arguments read as before; no other condition. Part 5 of 8: Es Et Eu Ev Vgp Vgq Mvec Vgr Va Vb Vc Vd. -/
import Derived.Test.YtelbjmhhbeijkaaGreatK4
set_option linter.unusedVariables false
set_option linter.unusedSimpArgs false
namespace Go.Proofs.YtelbjmhhbeijkaaGreat
open Go.Vg Go.RowKit _root_.Go.Proofs.Tryz
set_option linter.unusedVariables false
open Go.Vm
set_option maxHeartbeats 1000000 in
theorem swapRange_ent {post : List Value} {b n cap : Nat} {xs : List EC} {w : World} {a c k : Nat} {fv : Value} (ha : Ae post w b 55 xs n) (hsz : n ≤ 4611686018427387903) (h1 : a + k ≤ c) (h2 : c + k ≤ n) :
    Calls Tryz.prog 134 #[(.slice (some ⟨b, 0, none⟩) (n) (cap)), (iv a), (iv c), (iv k), fv] w fun e w' => ∃ v, e = .returned v ∧ v = .tuple #[] ∧ Ae post w' b 55 (swpR xs a c k) n ∧ Exc b w w' := by
 have hE : Exc b w w := Exc.of_ext (Ext.refl _)
 refine calls_of (n := 38) (rs := []) func134 rfl rfl rfl bL ?_
 refine wset fun F0 hF0 => ?_
 refine wsr (aS (v := (iv 0)) rfl (RL.nil ?_))
 refine wblock ?_
 refine wset fun F1 hF2 => ?_
 refine wloop (σ := Nat) (fun (i : Nat) fl wl => Off (rg 10 28 []) F1 fl ∧ fl 10 = (iv i) ∧ (i ≤ k) ∧ (Ae post wl b 55 (swpR xs a c i) n) ∧ (Exc b w wl)) (fun (i : Nat) => k - i) (0) ?_ ?_
 ·exact ⟨Off.refl _ _, (hF2 10).trans (rfl), Nat.zero_le _, ha, hE⟩
 clear ha hE
 rintro i f3 w4 ⟨G5, hs6, hik, ha, hE⟩
 refine wseq (wsr (mV hs6 (mV (v := (iv k)) ((G5 3 rfl).trans ((hF2 3).trans (hF0 3))) (rV (r_lss (k := .i64) (a := (i : Int)) (b := (k : Int)) rfl rfl) (RL.nil ?_)))))
 refine wcD (p := (i : Int) < (k : Int)) rfl (fun hb7 hb7p => ?_) (fun hb7 hb7p => ?_)
 ·refine wskip ?_
  refine wseq ?_
  refine wblock ?_
  refine wdraw mixed fun w8 he9 => ?_
  have he9z := he9.size
  replace ha := ha.ext he9
  replace hE := hE.trans (Exc.of_ext he9)
  refine aM 0 rfl (v := (.slice (some ⟨b, 0, none⟩) (n) (cap))) ((G5 0 rfl).trans ((hF2 0).trans (hF0 0))) ?_
  refine aM 1 rfl (v := (iv a)) ((G5 1 rfl).trans ((hF2 1).trans (hF0 1))) ?_
  refine aM 2 rfl (v := (iv i)) hs6 ?_
  refine ra 3 rfl (fun _ => r_add (k := .i64) (a := (a : Int)) (b := (i : Int)) (c := ((a + i : Nat) : Int)) rfl rfl ((wi64 oM).trans oM)) ?_
  refine aM 4 rfl (v := (.slice (some ⟨b, 0, none⟩) (n) (cap))) ((G5 0 rfl).trans ((hF2 0).trans (hF0 0))) ?_
  refine aM 5 rfl (v := (iv c)) ((G5 2 rfl).trans ((hF2 2).trans (hF0 2))) ?_
  refine aM 6 rfl (v := (iv i)) hs6 ?_
  refine ra 7 rfl (fun _ => r_add (k := .i64) (a := (c : Int)) (b := (i : Int)) (c := ((c + i : Nat) : Int)) rfl rfl ((wi64 oM).trans oM)) ?_
  refine aM 8 rfl (v := (.slice (some ⟨b, 0, none⟩) (n) (cap))) ((G5 0 rfl).trans ((hF2 0).trans (hF0 0))) ?_
  refine aM 9 rfl (v := (iv c)) ((G5 2 rfl).trans ((hF2 2).trans (hF0 2))) ?_
  refine aM 10 rfl (v := (iv i)) hs6 ?_
  refine ra 11 rfl (fun _ => r_add (k := .i64) (a := (c : Int)) (b := (i : Int)) (c := ((c + i : Nat) : Int)) rfl rfl ((wi64 oM).trans oM)) ?_
  refine ra 12 rfl (fun _ => r_indexAddr (i := ((c + i : Nat) : Int)) uT22 ty55 rfl rfl oM oM) ?_
  have hc10 := ha.cell (i := ((c + i : Nat) : Int)) (c + i) oM oM
  refine aR 13 rfl (fun u hu => r_loada (cs := entC ((swpR xs a c i).getD (c + i) default)) uT55 ag55 ty55 rfl (fun j v hj => cell_ext hu (hc10 j v hj))) ?_
  refine aM 14 rfl (v := (.slice (some ⟨b, 0, none⟩) (n) (cap))) ((G5 0 rfl).trans ((hF2 0).trans (hF0 0))) ?_
  refine aM 15 rfl (v := (iv a)) ((G5 1 rfl).trans ((hF2 1).trans (hF0 1))) ?_
  refine aM 16 rfl (v := (iv i)) hs6 ?_
  refine ra 17 rfl (fun _ => r_add (k := .i64) (a := (a : Int)) (b := (i : Int)) (c := ((a + i : Nat) : Int)) rfl rfl ((wi64 oM).trans oM)) ?_
  refine ra 18 rfl (fun _ => r_indexAddr (i := ((a + i : Nat) : Int)) uT22 ty55 rfl rfl oM oM) ?_
  have hc11 := ha.cell (i := ((a + i : Nat) : Int)) (a + i) oM oM
  refine aR 19 rfl (fun u hu => r_loada (cs := entC ((swpR xs a c i).getD (a + i) default)) uT55 ag55 ty55 rfl (fun j v hj => cell_ext hu (hc11 j v hj))) ?_
  refine ra 20 rfl (fun _ => r_indexAddr (i := ((a + i : Nat) : Int)) uT22 ty55 rfl rfl oM oM) ?_
  refine RA.all [21] kR rfl ?_
  refine RS.runs rfl rfl rfl (h_setE (u := (swpR xs a c i).getD (c + i) default) (i := ((a + i : Nat) : Int)) ty55 rfl rfl rfl ha (a + i) oM oM) ?_ RS.nil
  rintro w12 ⟨ha13, hx14⟩
  refine ⟨.inr (.inl kR), ?_⟩
  have hx14z := hx14.size
  replace hE := hE.trans hx14
  replace ha := ha13
  refine ra 22 rfl (fun _ => r_indexAddr (i := ((c + i : Nat) : Int)) uT22 ty55 rfl rfl oM oM) ?_
  refine RA.all [23] kR rfl ?_
  refine RS.runs rfl rfl rfl (h_setE (u := (swpR xs a c i).getD (a + i) default) (i := ((c + i : Nat) : Int)) ty55 rfl rfl rfl ha (c + i) oM oM) ?_ RS.nil
  rintro w15 ⟨ha16, hx17⟩
  refine ⟨.inr (.inl kR), ?_⟩
  have hx17z := hx17.size
  replace hE := hE.trans hx17
  replace ha := ha16
  refine RA.done kR ?_
  refine wregion (mV hs6 (rV (r_add (k := .i64) (a := (i : Int)) (b := 1) (c := (i : Int) + 1) rfl rfl (wi64 oM)) (aS (v := (iv ((i : Int) + 1))) rfl (RL.nil ?_))))
  refine ⟨(i + 1), ⟨?_, ?_, ?_, ?_, ?_⟩, ?_⟩
  · exact (by repeat (first | exact G5 | refine Off.st ?_ dC _))
  · first | rfl | exact int_eq oM | exact bool_eq (by simp)
  · omega
  · exact ha
  · exact hE
  (try dsimp only)
  omega
 refine wexit ?_
 refine ⟨[], trivial, ?_⟩
 have hik2 : i = k := by omega
 subst hik2
 exact ⟨rfl, ha, hE⟩
set_option maxHeartbeats 1000000 in
theorem rotate_ent {post : List Value} {b n cap : Nat} {xs : List EC} {w : World} {a m c : Nat} {LA LU LV LB : List EC} {fv : Value} (ha : Ae post w b 55 xs n) (hsz : n ≤ 4611686018427387903) (hxs : xs = LA ++ LU ++ LV ++ LB) (h1 : LA.length = a) (h2 : a + LU.length = m) (h3 : m + LV.length = c) (h4 : 0 < LU.length) (h5 : 0 < LV.length) :
    Calls Tryz.prog 132 #[(.slice (some ⟨b, 0, none⟩) (n) (cap)), (iv a), (iv m), (iv c), fv] w fun e w' => ∃ v, e = .returned v ∧ v = .tuple #[] ∧ Ae post w' b 55 (LA ++ LV ++ LU ++ LB) n ∧ Exc b w w' := by
 have hE : Exc b w w := Exc.of_ext (Ext.refl _)
 have hn : LA.length + LU.length + LV.length + LB.length = n := by have := ha.len; rw [hxs] at this; simp at this; omega
 refine calls_of (n := 58) (rs := []) func132 rfl rfl rfl bL ?_
 refine wset fun F0 hF0 => ?_
 refine wsr (mV (v := (iv m)) (hF0 2) (mV (v := (iv a)) (hF0 1) (rV (r_sub (k := .i64) (a := (m : Int)) (b := (a : Int)) (c := (m : Int) - (a : Int)) rfl rfl (wi64 oM)) (aS (v := (iv ((m : Int) - (a : Int)))) rfl (RL.nil (wsr (mV (v := (iv c)) (hF0 3) (mV (v := (iv m)) (hF0 2) (rV (r_sub (k := .i64) (a := (c : Int)) (b := (m : Int)) (c := (c : Int) - (m : Int)) rfl rfl (wi64 oM)) (aS (v := (iv ((c : Int) - (m : Int)))) rfl (RL.nil (wseq ?_))))))))))))
 refine wblock ?_
 refine wset fun F1 hF2 => ?_
 refine wloop (σ := List EC × List EC × List EC × List EC) (fun (s : List EC × List EC × List EC × List EC) fl wl => match s with | (X, Y, PP, SS) => Off (rg 10 2 (rg 18 32 [])) F1 fl ∧ fl 10 = (iv (X.length : Nat)) ∧ fl 11 = (iv (Y.length : Nat)) ∧ (PP ++ Y ++ X ++ SS = LV ++ LU) ∧ (LA.length + PP.length + X.length = m) ∧ (0 < X.length) ∧ (0 < Y.length) ∧ (PP.length + X.length + Y.length + SS.length = LU.length + LV.length) ∧ (Ae post wl b 55 (LA ++ PP ++ X ++ Y ++ SS ++ LB) n) ∧ (Exc b w wl)) (fun (s : List EC × List EC × List EC × List EC) => match s with | (X, Y, PP, SS) => X.length + Y.length) (LU, LV, [], []) ?_ ?_
 ·exact ⟨Off.refl _ _, (hF2 10).trans ((int_eq oM)), (hF2 11).trans ((int_eq oM)), by simp, by simp; omega, h4, h5, by simp, (by rw [hxs] at ha; simpa using ha), hE⟩
 clear ha hE
 rintro ⟨X, Y, PP, SS⟩ f3 w4 ⟨G5, hs6, hs7, hT, hm, hx0, hy0, hY, ha, hE⟩
 refine wseq (wsr (mV hs6 (mV hs7 (rV (r_neq (k := .i64) (a := ((X.length : Nat) : Int)) (b := ((Y.length : Nat) : Int)) rfl rfl) (RL.nil ?_)))))
 refine wcD (p := ((X.length : Nat) : Int) ≠ ((Y.length : Nat) : Int)) rfl (fun hb8 hb8p => ?_) (fun hb8 hb8p => ?_)
 ·refine wskip ?_
  refine wblock ?_
  refine wsr (mV hs6 (mV hs7 (rV (r_gtr (k := .i64) (a := ((X.length : Nat) : Int)) (b := ((Y.length : Nat) : Int)) rfl rfl) (RL.nil ?_))))
  refine wcD (p := ((Y.length : Nat) : Int) < ((X.length : Nat) : Int)) rfl (fun hb9 hb9p => ?_) (fun hb9 hb9p => ?_)
  ·refine wsr ?_
   refine mV (v := (.slice (some ⟨b, 0, none⟩) (n) (cap))) ((G5 0 rfl).trans ((hF2 0).trans (hF0 0))) (mV (v := (iv m)) ((G5 2 rfl).trans ((hF2 2).trans (hF0 2))) (mV hs6 (rV (r_sub (k := .i64) (a := (m : Int)) (b := ((X.length : Nat) : Int)) (c := ((LA.length + PP.length : Nat) : Int)) rfl rfl ((wi64 oM).trans oM)) (mV (v := (iv (LA.length + PP.length + X.length : Nat))) (((G5 2 rfl).trans ((hF2 2).trans (hF0 2))).trans (int_eq oM)) (mV hs7 (mV (v := fv) ((G5 4 rfl).trans ((hF2 4).trans (hF0 4))) ?_))))))
   refine cL ent134 (swapRange_ent (a := LA.length + PP.length) (c := LA.length + PP.length + X.length) (k := Y.length) ha hsz oM oM) rfl ?_
   rintro _ w10 ⟨rfl, ha11, hx12⟩
   replace hE := hE.trans hx12
   replace ha := ha11
   refine RL.nil (wregion (mV hs6 (mV hs7 (rV (r_sub (k := .i64) (a := ((X.length : Nat) : Int)) (b := ((Y.length : Nat) : Int)) (c := ((X.length : Nat) : Int) - ((Y.length : Nat) : Int)) rfl rfl (wi64 oM)) (aS (v := (iv (((X.length : Nat) : Int) - ((Y.length : Nat) : Int)))) rfl (RL.nil ?_))))))
   refine ⟨(X.drop Y.length, X.take Y.length, PP ++ Y, SS), ⟨?_, ?_, ?_, ?_, ?_, ?_, ?_, ?_, ?_, ?_⟩, ?_⟩
   · exact (by repeat (first | exact G5 | refine Off.st ?_ dC _))
   · exact int_eq (by simp; omega)
   · refine (hs7).trans ?_
     exact int_eq (by simp; omega)
   · rw [← hT]; simp [List.append_assoc]
   · simp; omega
   · simp; omega
   · simp; omega
   · simp; omega
   · rw [rot_gt _ _ _ _ _ _ _ _ _ oM oM rfl oM] at ha; exact ha
   · exact hE
   show _ < _
   simp; omega
  refine wsr (mV (v := (.slice (some ⟨b, 0, none⟩) (n) (cap))) ((G5 0 rfl).trans ((hF2 0).trans (hF0 0))) (mV (v := (iv m)) ((G5 2 rfl).trans ((hF2 2).trans (hF0 2))) (mV hs6 (rV (r_sub (k := .i64) (a := (m : Int)) (b := ((X.length : Nat) : Int)) (c := ((LA.length + PP.length : Nat) : Int)) rfl rfl ((wi64 oM).trans oM)) (mV (v := (iv m)) ((G5 2 rfl).trans ((hF2 2).trans (hF0 2))) (mV hs7 (rV (r_add (k := .i64) (a := (m : Int)) (b := ((Y.length : Nat) : Int)) (c := (m : Int) + ((Y.length : Nat) : Int)) rfl rfl (wi64 oM)) (mV hs6 (rV (r_sub (k := .i64) (a := (m : Int) + ((Y.length : Nat) : Int)) (b := ((X.length : Nat) : Int)) (c := ((LA.length + PP.length + Y.length : Nat) : Int)) rfl rfl ((wi64 oM).trans oM)) (mV hs6 (mV (v := fv) ((G5 4 rfl).trans ((hF2 4).trans (hF0 4))) ?_)))))))))))
  refine cL ent134 (swapRange_ent (a := LA.length + PP.length) (c := LA.length + PP.length + Y.length) (k := X.length) ha hsz oM oM) rfl ?_
  rintro _ w13 ⟨rfl, ha14, hx15⟩
  replace hE := hE.trans hx15
  replace ha := ha14
  refine RL.nil (wregion (mV hs7 (mV hs6 (rV (r_sub (k := .i64) (a := ((Y.length : Nat) : Int)) (b := ((X.length : Nat) : Int)) (c := ((Y.length : Nat) : Int) - ((X.length : Nat) : Int)) rfl rfl (wi64 oM)) (aS (v := (iv (((Y.length : Nat) : Int) - ((X.length : Nat) : Int)))) rfl (RL.nil ?_))))))
  refine ⟨(Y.drop (Y.length - X.length), Y.take (Y.length - X.length), PP, X ++ SS), ⟨?_, ?_, ?_, ?_, ?_, ?_, ?_, ?_, ?_, ?_⟩, ?_⟩
  · exact (by repeat (first | exact G5 | refine Off.st ?_ dC _))
  · refine (hs6).trans ?_
    exact int_eq (by simp; omega)
  · exact int_eq (by simp; omega)
  · rw [← hT]; simp [List.append_assoc]
  · simp; omega
  · simp; omega
  · simp; omega
  · simp; omega
  · rw [rot_lt _ _ _ _ _ _ _ _ _ oM oM rfl oM] at ha; exact ha
  · exact hE
  show _ < _
  simp; omega
 refine wexit ?_
 refine wregion (mV (v := (.slice (some ⟨b, 0, none⟩) (n) (cap))) ((G5 0 rfl).trans ((hF2 0).trans (hF0 0))) (mV (v := (iv m)) ((G5 2 rfl).trans ((hF2 2).trans (hF0 2))) (mV hs6 (rV (r_sub (k := .i64) (a := (m : Int)) (b := ((X.length : Nat) : Int)) (c := ((LA.length + PP.length : Nat) : Int)) rfl rfl ((wi64 oM).trans oM)) (mV (v := (iv (LA.length + PP.length + X.length : Nat))) (((G5 2 rfl).trans ((hF2 2).trans (hF0 2))).trans (int_eq oM)) (mV hs6 (mV (v := fv) ((G5 4 rfl).trans ((hF2 4).trans (hF0 4))) ?_)))))))
 refine cL ent134 (swapRange_ent (a := LA.length + PP.length) (c := LA.length + PP.length + X.length) (k := X.length) ha hsz oM oM) rfl ?_
 rintro _ w16 ⟨rfl, ha17, hx18⟩
 replace hE := hE.trans hx18
 replace ha := ha17
 refine RL.nil ?_
 refine ⟨[], trivial, ?_⟩
 have hxy : X.length = Y.length := by omega
 rw [rot_gt _ _ _ _ _ _ _ _ _ oM oM hxy oM] at ha
 rw [List.drop_of_length_le oM, List.take_of_length_le oM] at ha
 have e : LA ++ (PP ++ Y) ++ [] ++ X ++ SS ++ LB = LA ++ LV ++ LU ++ LB := by
   have : LA ++ (PP ++ Y) ++ [] ++ X ++ SS ++ LB = LA ++ (PP ++ Y ++ X ++ SS) ++ LB := by simp
   rw [this, hT]; simp
 rw [e] at ha
 exact ⟨rfl, ha, hE⟩
end Go.Proofs.YtelbjmhhbeijkaaGreat
namespace Go.Proofs.YtelbjmhhbeijkaaGreat
open Go.Vg Go.RowKit _root_.Go.Proofs.Tryz
set_option linter.unusedVariables false
open Go.Vm
def CmpOk {α : Type} (P : Program) (k : Nat) (cl : List Value) (enc : α → Value) (key : α → Int) (ok : α → Prop) (b : Nat) (w0 : World) : Prop :=
  ∀ w, Exc b w0 w → ∀ x y, ok x → ok y → Calls P k ([enc x, enc y] ++ cl).toArray w fun e w' => ∃ v, e = .returned v ∧ (v = .int .i64 (cmpI (key x) (key y)) ∧ Ext w w')
set_option maxHeartbeats 1000000 in
theorem insertion_ent {post : List Value} {b n cap : Nat} {xs : List EC} {w : World} {kc : Nat} {cl : List Value} {key : EC → Int} {ok : EC → Prop} {w0 : World} (hent : Ent Tryz.prog kc) (hcmp : CmpOk Tryz.prog kc cl encE key ok b w0) (hw0 : Exc b w0 w) {a c : Nat} {LA LS LB : List EC} (ha : Ae post w b 55 xs n) (hsz : n ≤ 4611686018427387903) (hxs : xs = LA ++ LS ++ LB) (h1 : LA.length = a) (h2 : a + LS.length = c) (hok : ∀ x ∈ LS, ok x) :
    Calls Tryz.prog 71 #[(.slice (some ⟨b, 0, none⟩) (n) (cap)), (iv a), (iv c), (.func (.func kc) #[] cl.toArray)] w fun e w' => ∃ v, e = .returned v ∧ v = .tuple #[] ∧ (∃ l, Ae post w' b 55 (LA ++ l ++ LB) n ∧ Srt key l ∧ StE key LS l) ∧ Exc b w w' := by
 have hE : Exc b w w := Exc.of_ext (Ext.refl _)
 have hn : LA.length + LS.length + LB.length = n := by have := ha.len; rw [hxs] at this; simp at this; omega
 refine calls_of (n := 53) (rs := []) func71 rfl rfl rfl bL ?_
 refine wset fun F0 hF0 => ?_
 refine wsr (mV (v := (iv a)) (hF0 1) (rV (r_add (k := .i64) (a := (a : Int)) (b := 1) (c := ((a + 1 : Nat) : Int)) rfl rfl ((wi64 oM).trans oM)) (aS (v := (iv (a + 1 : Nat))) rfl (RL.nil ?_))))
 refine wblock ?_
 refine wset fun F1 hF2 => ?_
 refine wloop (σ := Nat × List EC) (fun (s : Nat × List EC) fl wl => match s with | (k, S) => Off (rg 8 2 (rg 12 41 [])) F1 fl ∧ fl 8 = (iv (a + k : Nat)) ∧ (1 ≤ k) ∧ (k ≤ max 1 LS.length) ∧ (S.length = min k LS.length) ∧ (Srt key S) ∧ (StE key (LS.take k) S) ∧ (Ae post wl b 55 (LA ++ S ++ LS.drop k ++ LB) n) ∧ (Exc b w wl)) (fun (s : Nat × List EC) => match s with | (k, S) => LS.length - k) (1, LS.take 1) ?_ ?_
 ·exact ⟨Off.refl _ _, (hF2 8).trans (rfl), Nat.le_refl _, Nat.le_max_left _ _, by simp, (by match LS with | [] => exact Srt.nil _ | x :: t => exact Srt.one _ x), StE.refl _ _, (by rw [hxs] at ha; rw [List.append_assoc LA, List.take_append_drop]; exact ha), hE⟩
 clear ha hE
 rintro ⟨k, S⟩ f3 w4 ⟨G5, hs6, hk1, hk2, hSl, hSrt, hSt, ha, hE⟩
 refine wseq (wsr (mV hs6 (mV (v := (iv c)) ((G5 2 rfl).trans ((hF2 2).trans (hF0 2))) (rV (r_lss (k := .i64) (a := ((a + k : Nat) : Int)) (b := (c : Int)) rfl rfl) (RL.nil ?_)))))
 refine wcD (p := ((a + k : Nat) : Int) < (c : Int)) rfl (fun hb7 hb7p => ?_) (fun hb7 hb7p => ?_)
 ·refine wskip ?_
  refine wseq ?_
  refine wblock ?_
  refine wseq ?_
  have hkl : k < LS.length := by omega
  obtain ⟨x, hx⟩ : ∃ x, x = LS.getD k default := ⟨_, rfl⟩
  have hxin : x ∈ LS := by rw [hx]; simp [hkl]
  have hSk : S.length = k := by rw [hSl]; omega
  have hSin : ∀ y ∈ S, y ∈ LS := fun y hy => List.mem_of_mem_take (hSt.symm.mem hy)
  refine wregion (mV hs6 (aS (v := (iv (a + k : Nat))) rfl (RL.nil ?_)))
  refine wblock ?_
  refine wset fun F8 hF9 => ?_
  refine wloop (σ := List EC × List EC) (fun (s : List EC × List EC) fl wl => match s with | (S1, S2) => Off (9 :: (rg 18 35 [])) F8 fl ∧ fl 9 = (iv (a + S1.length : Nat)) ∧ (S = S1 ++ S2) ∧ (∀ y ∈ S2, key x < key y) ∧ (Ae post wl b 55 (LA ++ S1 ++ x :: S2 ++ LS.drop (k + 1) ++ LB) n) ∧ (Exc b w wl)) (fun (s : List EC × List EC) => match s with | (S1, S2) => S1.length) (S, []) ?_ ?_
  ·exact ⟨Off.refl _ _, (hF9 9).trans ((int_eq (by simp [hSl]; omega))), by simp, by simp, (by rw [drop_cons LS k hkl, ← hx] at ha; simpa using ha), hE⟩
  clear ha hE
  rintro ⟨S1, S2⟩ f10 w11 ⟨G12, hs13, hSS, hlt, ha, hE⟩
  have hSSl : S1.length + S2.length = S.length := by rw [hSS]; simp
  refine wseq (wseq ?_)
  refine wdraw mixed fun w14 he15 => ?_
  have he15z := he15.size
  replace ha := ha.ext he15
  replace hE := hE.trans (Exc.of_ext he15)
  refine aM 0 rfl (v := (iv (a + S1.length : Nat))) hs13 ?_
  refine aM 1 rfl (v := (iv a)) ((G12 1 rfl).trans ((hF9 1).trans ((G5 1 rfl).trans ((hF2 1).trans (hF0 1))))) ?_
  refine ra 2 rfl (fun _ => r_gtr (k := .i64) (a := ((a + S1.length : Nat) : Int)) (b := (a : Int)) rfl rfl) ?_
  refine aM 3 rfl (v := (bd ((a : Int) < ((a + S1.length : Nat) : Int)))) rfl ?_
  rcases bD ((a : Int) < ((a + S1.length : Nat) : Int)) with ⟨hb16, hb16p⟩ | ⟨hb16, hb16p⟩
  ·obtain ⟨S3, y, hS1⟩ := snoc_of S1 oM
   have hS1l : S1.length = S3.length + 1 := by rw [hS1]; simp
   refine aG 4 rfl rfl (bool_eq hb16) (fun _ => r_move_as (v := (.func (.func kc) #[] cl.toArray)) ((G12 3 rfl).trans ((hF9 3).trans ((G5 3 rfl).trans ((hF2 3).trans (hF0 3)))))) ?_
   refine aG 5 rfl rfl (bool_eq hb16) (fun _ => r_move_as (v := (.slice (some ⟨b, 0, none⟩) (n) (cap))) ((G12 0 rfl).trans ((hF9 0).trans ((G5 0 rfl).trans ((hF2 0).trans (hF0 0)))))) ?_
   refine aG 6 rfl rfl (bool_eq hb16) (fun _ => r_move_as (v := (iv (a + S1.length : Nat))) hs13) ?_
   refine aG 7 rfl rfl (bool_eq hb16) (fun _ => r_indexAddr (i := ((a + S1.length : Nat) : Int)) uT22 ty55 rfl rfl oM oM) ?_
   have hc17 := ha.cell (i := ((a + S1.length : Nat) : Int)) (a + S1.length) oM oM
   rw [show (LA ++ S1 ++ x :: S2 ++ LS.drop (k + 1) ++ LB).getD (a + S1.length) default = x from (by rw [show (LA ++ S1 ++ x :: S2 ++ LS.drop (k + 1) ++ LB) = (LA ++ S1) ++ x :: (S2 ++ LS.drop (k + 1) ++ LB) from by simp]; exact getD_mid _ _ _ _ (by simp [h1]))] at hc17
   refine RA.grd 8 rfl kR rfl rfl rfl (bool_eq hb16) rfl dC (Ext.refl _) (fun u hu => r_loada (cs := entC x) uT55 ag55 ty55 rfl (fun j v hj => cell_ext hu (hc17 j v hj))) ?_
   refine aG 9 rfl rfl (bool_eq hb16) (fun _ => r_move_as (v := (.slice (some ⟨b, 0, none⟩) (n) (cap))) ((G12 0 rfl).trans ((hF9 0).trans ((G5 0 rfl).trans ((hF2 0).trans (hF0 0)))))) ?_
   refine aG 10 rfl rfl (bool_eq hb16) (fun _ => r_move_as (v := (iv (a + S1.length : Nat))) hs13) ?_
   refine aG 11 rfl rfl (bool_eq hb16) (fun _ => r_sub (k := .i64) (a := ((a + S1.length : Nat) : Int)) (b := 1) (c := ((a + S1.length - 1 : Nat) : Int)) rfl rfl ((wi64 oM).trans oM)) ?_
   refine aG 12 rfl rfl (bool_eq hb16) (fun _ => r_indexAddr (i := ((a + S1.length - 1 : Nat) : Int)) uT22 ty55 rfl rfl oM oM) ?_
   have hc18 := ha.cell (i := ((a + S1.length - 1 : Nat) : Int)) (a + S1.length - 1) oM oM
   rw [show (LA ++ S1 ++ x :: S2 ++ LS.drop (k + 1) ++ LB).getD (a + S1.length - 1) default = y from (by rw [show (LA ++ S1 ++ x :: S2 ++ LS.drop (k + 1) ++ LB) = (LA ++ S3) ++ y :: (x :: S2 ++ LS.drop (k + 1) ++ LB) from by simp [hS1]]; exact getD_mid _ _ _ _ (by simp [hS1, h1]))] at hc18
   refine RA.grd 13 rfl kR rfl rfl rfl (bool_eq hb16) rfl dC (Ext.refl _) (fun u hu => r_loada (cs := entC y) uT55 ag55 ty55 rfl (fun j v hj => cell_ext hu (hc18 j v hj))) ?_
   refine RA.all [14] kR rfl ?_
   refine RS.gcall rfl rfl rfl (bool_eq hb16) rfl dC (r_callv (vl := [(encE x), (encE y)]) (cl := cl) rfl hent rfl) (hcmp _ (hw0.trans hE) (x) (y) (hok _ hxin) (hok _ (hSin y (by rw [hSS, hS1]; simp)))) ?_ RS.nil
   rintro _ w19 ⟨rfl, he20⟩
   refine rm he20 ?_
   replace ha := ha.ext he20
   replace hE := hE.trans (Exc.of_ext he20)
   refine aG 15 rfl rfl (bool_eq hb16) (fun _ => r_lss (k := .i64) (a := cmpI (key x) (key y)) (b := 0) rfl rfl) ?_
   refine ra 16 rfl (fun _ => r_pick_t (v := (bd ((cmpI (key x) (key y)) < 0))) (bool_eq hb16) rfl) ?_
   refine RA.done kR ?_
   refine wcD (p := (cmpI (key x) (key y)) < 0) rfl (fun hb21 hb21p => ?_) (fun hb21 hb21p => ?_)
   ·have hxy : key x < key y := by unfold cmpI at hb21p; (repeat split at hb21p) <;> omega
    refine wskip ?_
    refine wseq ?_
    refine wblock ?_
    refine wdraw mixed fun w22 he23 => ?_
    have he23z := he23.size
    replace ha := ha.ext he23
    replace hE := hE.trans (Exc.of_ext he23)
    refine aM 0 rfl (v := (.slice (some ⟨b, 0, none⟩) (n) (cap))) ((G12 0 rfl).trans ((hF9 0).trans ((G5 0 rfl).trans ((hF2 0).trans (hF0 0))))) ?_
    refine aM 1 rfl (v := (iv (a + S1.length : Nat))) hs13 ?_
    refine aM 2 rfl (v := (.slice (some ⟨b, 0, none⟩) (n) (cap))) ((G12 0 rfl).trans ((hF9 0).trans ((G5 0 rfl).trans ((hF2 0).trans (hF0 0))))) ?_
    refine aM 3 rfl (v := (iv (a + S1.length : Nat))) hs13 ?_
    refine ra 4 rfl (fun _ => r_sub (k := .i64) (a := ((a + S1.length : Nat) : Int)) (b := 1) (c := ((a + S1.length - 1 : Nat) : Int)) rfl rfl ((wi64 oM).trans oM)) ?_
    refine aM 5 rfl (v := (.slice (some ⟨b, 0, none⟩) (n) (cap))) ((G12 0 rfl).trans ((hF9 0).trans ((G5 0 rfl).trans ((hF2 0).trans (hF0 0))))) ?_
    refine aM 6 rfl (v := (iv (a + S1.length : Nat))) hs13 ?_
    refine ra 7 rfl (fun _ => r_sub (k := .i64) (a := ((a + S1.length : Nat) : Int)) (b := 1) (c := ((a + S1.length - 1 : Nat) : Int)) rfl rfl ((wi64 oM).trans oM)) ?_
    refine ra 8 rfl (fun _ => r_indexAddr (i := ((a + S1.length - 1 : Nat) : Int)) uT22 ty55 rfl rfl oM oM) ?_
    have hc24 := ha.cell (i := ((a + S1.length - 1 : Nat) : Int)) (a + S1.length - 1) oM oM
    rw [show (LA ++ S1 ++ x :: S2 ++ LS.drop (k + 1) ++ LB).getD (a + S1.length - 1) default = y from (by rw [show (LA ++ S1 ++ x :: S2 ++ LS.drop (k + 1) ++ LB) = (LA ++ S3) ++ y :: (x :: S2 ++ LS.drop (k + 1) ++ LB) from by simp [hS1]]; exact getD_mid _ _ _ _ (by simp [hS1, h1]))] at hc24
    refine aR 9 rfl (fun u hu => r_loada (cs := entC y) uT55 ag55 ty55 rfl (fun j v hj => cell_ext hu (hc24 j v hj))) ?_
    refine aM 10 rfl (v := (.slice (some ⟨b, 0, none⟩) (n) (cap))) ((G12 0 rfl).trans ((hF9 0).trans ((G5 0 rfl).trans ((hF2 0).trans (hF0 0))))) ?_
    refine aM 11 rfl (v := (iv (a + S1.length : Nat))) hs13 ?_
    refine ra 12 rfl (fun _ => r_indexAddr (i := ((a + S1.length : Nat) : Int)) uT22 ty55 rfl rfl oM oM) ?_
    have hc25 := ha.cell (i := ((a + S1.length : Nat) : Int)) (a + S1.length) oM oM
    rw [show (LA ++ S1 ++ x :: S2 ++ LS.drop (k + 1) ++ LB).getD (a + S1.length) default = x from (by rw [show (LA ++ S1 ++ x :: S2 ++ LS.drop (k + 1) ++ LB) = (LA ++ S1) ++ x :: (S2 ++ LS.drop (k + 1) ++ LB) from by simp]; exact getD_mid _ _ _ _ (by simp [h1]))] at hc25
    refine aR 13 rfl (fun u hu => r_loada (cs := entC x) uT55 ag55 ty55 rfl (fun j v hj => cell_ext hu (hc25 j v hj))) ?_
    refine ra 14 rfl (fun _ => r_indexAddr (i := ((a + S1.length : Nat) : Int)) uT22 ty55 rfl rfl oM oM) ?_
    refine RA.all [15] kR rfl ?_
    refine RS.runs rfl rfl rfl (h_setE (u := y) (i := ((a + S1.length : Nat) : Int)) ty55 rfl rfl rfl ha (a + S1.length) oM oM) ?_ RS.nil
    rintro w26 ⟨ha27, hx28⟩
    refine ⟨.inr (.inl kR), ?_⟩
    have hx28z := hx28.size
    replace hE := hE.trans hx28
    replace ha := ha27
    refine ra 16 rfl (fun _ => r_indexAddr (i := ((a + S1.length - 1 : Nat) : Int)) uT22 ty55 rfl rfl oM oM) ?_
    refine RA.all [17] kR rfl ?_
    refine RS.runs rfl rfl rfl (h_setE (u := x) (i := ((a + S1.length - 1 : Nat) : Int)) ty55 rfl rfl rfl ha (a + S1.length - 1) oM oM) ?_ RS.nil
    rintro w29 ⟨ha30, hx31⟩
    refine ⟨.inr (.inl kR), ?_⟩
    have hx31z := hx31.size
    replace hE := hE.trans hx31
    replace ha := ha30
    refine RA.done kR ?_
    refine wregion (mV hs13 (rV (r_sub (k := .i64) (a := ((a + S1.length : Nat) : Int)) (b := 1) (c := ((a + S1.length : Nat) : Int) - 1) rfl rfl (wi64 oM)) (aS (v := (iv (((a + S1.length : Nat) : Int) - 1))) rfl (RL.nil ?_))))
    refine ⟨(S3, y :: S2), ⟨?_, ?_, ?_, ?_, ?_, ?_⟩, ?_⟩
    · exact (by repeat (first | exact G12 | refine Off.st ?_ dC _ | refine Off.via G5 dC ?_ | refine Off.eq hF2 ?_))
    · exact int_eq (by rw [hS1]; simp; omega)
    · rw [hSS, hS1]; simp
    · intro z hz; rcases List.mem_cons.1 hz with rfl | hz; exact hxy; exact hlt z hz
    · rw [show (LA ++ S1 ++ x :: S2 ++ LS.drop (k + 1) ++ LB) = (LA ++ S3) ++ y :: x :: (S2 ++ LS.drop (k + 1) ++ LB) from by rw [hS1]; simp, set2 _ _ _ _ _ _ _ _ (by rw [hS1]; simp; omega) (by rw [hS1]; simp; omega)] at ha; simpa using ha
    · exact hE
    show _ < _
    rw [hS1]; simp
   have hfin : S1 = [] ∨ ∃ S3 y, S1 = S3 ++ [y] ∧ key y ≤ key x := .inr ⟨S3, y, hS1, by unfold cmpI at hb21p; (repeat split at hb21p) <;> omega⟩
   refine wexit ?_
   refine wregion (mV (v := (iv (a + k : Nat))) ((G12 8 rfl).trans ((hF9 8).trans hs6)) (rV (r_add (k := .i64) (a := ((a + k : Nat) : Int)) (b := 1) (c := ((a + k : Nat) : Int) + 1) rfl rfl (wi64 oM)) (aS (v := (iv (((a + k : Nat) : Int) + 1))) rfl (RL.nil ?_))))
   refine ⟨(k + 1, S1 ++ x :: S2), ⟨?_, ?_, ?_, ?_, ?_, ?_, ?_, ?_, ?_⟩, ?_⟩
   · exact (by repeat (first | exact G5 | refine Off.st ?_ dC _ | refine Off.via G12 dC ?_ | refine Off.eq hF9 ?_))
   · exact int_eq oM
   · omega
   · omega
   · simp; omega
   · exact ins_srt (hSS ▸ hSrt) hlt hfin
   · rw [take_snoc LS k hkl, ← hx]; exact (StE.append (hSS ▸ hSt) (StE.refl _ [x])).trans (ins_ste hlt)
   · simpa using ha
   · exact hE
   (try dsimp only)
   omega
  have hfin : S1 = [] ∨ ∃ S3 y, S1 = S3 ++ [y] ∧ key y ≤ key x := .inl (List.eq_nil_of_length_eq_zero oM)
  refine aN 4 rfl rfl (.inl (bool_eq hb16)) ?_
  refine aN 5 rfl rfl (.inl (bool_eq hb16)) ?_
  refine aN 6 rfl rfl (.inl (bool_eq hb16)) ?_
  refine aN 7 rfl rfl (.inl (bool_eq hb16)) ?_
  refine aN 8 rfl rfl (.inl (bool_eq hb16)) ?_
  refine aN 9 rfl rfl (.inl (bool_eq hb16)) ?_
  refine aN 10 rfl rfl (.inl (bool_eq hb16)) ?_
  refine aN 11 rfl rfl (.inl (bool_eq hb16)) ?_
  refine aN 12 rfl rfl (.inl (bool_eq hb16)) ?_
  refine aN 13 rfl rfl (.inl (bool_eq hb16)) ?_
  refine RA.all [14] kR rfl ?_
  refine RS.gno rfl rfl rfl (.inl (bool_eq hb16)) rfl dC (.inr (.inl kR)) ?_ RS.nil
  refine aN 15 rfl rfl (.inl (bool_eq hb16)) ?_
  refine ra 16 rfl (fun _ => r_pick_f (v := (.bool false)) (bool_eq hb16) rfl) ?_
  refine RA.done kR ?_
  refine wcond_f rfl ?_
  refine wexit ?_
  refine wregion (mV (v := (iv (a + k : Nat))) ((G12 8 rfl).trans ((hF9 8).trans hs6)) (rV (r_add (k := .i64) (a := ((a + k : Nat) : Int)) (b := 1) (c := ((a + k : Nat) : Int) + 1) rfl rfl (wi64 oM)) (aS (v := (iv (((a + k : Nat) : Int) + 1))) rfl (RL.nil ?_))))
  refine ⟨(k + 1, S1 ++ x :: S2), ⟨?_, ?_, ?_, ?_, ?_, ?_, ?_, ?_, ?_⟩, ?_⟩
  · exact (by repeat (first | exact G5 | refine Off.st ?_ dC _ | refine Off.via G12 dC ?_ | refine Off.eq hF9 ?_))
  · exact int_eq oM
  · omega
  · omega
  · simp; omega
  · exact ins_srt (hSS ▸ hSrt) hlt hfin
  · rw [take_snoc LS k hkl, ← hx]; exact (StE.append (hSS ▸ hSt) (StE.refl _ [x])).trans (ins_ste hlt)
  · simpa using ha
  · exact hE
  (try dsimp only)
  omega
 refine wexit ?_
 refine ⟨[], trivial, ?_⟩
 have hkk : LS.length ≤ k := by omega
 rw [List.drop_of_length_le hkk] at ha
 rw [List.take_of_length_le hkk] at hSt
 exact ⟨rfl, ⟨S, by simpa using ha, hSrt, hSt⟩, hE⟩
end Go.Proofs.YtelbjmhhbeijkaaGreat
namespace Go.Proofs.YtelbjmhhbeijkaaGreat
open Go.Vg Go.RowKit _root_.Go.Proofs.Tryz
set_option linter.unusedVariables false
open Go.Vm
def SymOk (post : List Value) (kc : Nat) (cl : List Value) (key : EC → Int) (ok : EC → Prop) (b n cap : Nat) (w0 : World) (N : Nat) : Prop :=
  ∀ (a m c : Nat) (LA L R LB : List EC) (w : World), Ae post w b 55 (LA ++ L ++ R ++ LB) n → LA.length = a → a + L.length = m → m + R.length = c → 0 < L.length → 0 < R.length → Srt key L → Srt key R → (∀ x ∈ L ++ R, ok x) → Exc b w0 w → c - a ≤ N →
    Calls Tryz.prog 121 #[.slice (some ⟨b, 0, none⟩) n cap, .int .i64 (a : Int), .int .i64 (m : Int), .int .i64 (c : Int), .func (.func kc) #[] cl.toArray] w fun e w' => ∃ v, e = .returned v ∧ v = .tuple #[] ∧ (∃ l, Ae post w' b 55 (LA ++ l ++ LB) n ∧ Srt key l ∧ StE key (L ++ R) l) ∧ Exc b w w'
set_option maxHeartbeats 4000000 in
theorem symMerge_step {post : List Value} {b n cap : Nat} {w : World} {kc : Nat} {cl : List Value} {key : EC → Int} {ok : EC → Prop} {w0 : World} (hent : Ent Tryz.prog kc) (hcmp : CmpOk Tryz.prog kc cl encE key ok b w0) (hw0 : Exc b w0 w) {a m c N : Nat} {LA L R LB : List EC} (ih : SymOk post kc cl key ok b n cap w0 N) (ha : Ae post w b 55 (LA ++ L ++ R ++ LB) n) (hsz : n ≤ 4611686018427387903) (h1 : LA.length = a) (h2 : a + L.length = m) (h3 : m + R.length = c) (h4 : 0 < L.length) (h5 : 0 < R.length) (hsL : Srt key L) (hsR : Srt key R) (hok : ∀ x ∈ L ++ R, ok x) (hN : c - a ≤ N + 1) :
    Calls Tryz.prog 121 #[(.slice (some ⟨b, 0, none⟩) (n) (cap)), (iv a), (iv m), (iv c), (.func (.func kc) #[] cl.toArray)] w fun e w' => ∃ v, e = .returned v ∧ v = .tuple #[] ∧ (∃ l, Ae post w' b 55 (LA ++ l ++ LB) n ∧ Srt key l ∧ StE key (L ++ R) l) ∧ Exc b w w' := by
 have hE : Exc b w w := Exc.of_ext (Ext.refl _)
 have hn : LA.length + L.length + R.length + LB.length = n := by have := ha.len; simp at this; omega
 refine calls_of (n := 220) (rs := []) func121 rfl rfl rfl bL ?_
 refine wset fun F0 hF0 => ?_
 refine wseq (wsr (mV (v := (iv m)) (hF0 2) (mV (v := (iv a)) (hF0 1) (rV (r_sub (k := .i64) (a := (m : Int)) (b := (a : Int)) (c := ((m - a : Nat) : Int)) rfl rfl ((wi64 oM).trans oM)) (rV (r_eql (k := .i64) (a := ((m - a : Nat) : Int)) (b := 1) rfl rfl) (RL.nil ?_))))))
 refine wcD (p := ((m - a : Nat) : Int) = 1) rfl (fun hb1 hb1p => ?_) (fun hb1 hb1p => ?_)
 ·refine wsr ?_
  refine mV (v := (iv m)) (hF0 2) (aS (v := (iv m)) rfl (RL.nil (wsr (mV (v := (iv c)) (hF0 3) (aS (v := (iv c)) rfl (RL.nil (wseq ?_)))))))
  refine wblock ?_
  refine wset fun F2 hF3 => ?_
  refine wloop (σ := Nat × Nat) (fun (s : Nat × Nat) fl wl => match s with | (i, j) => Off (rg 10 3 (rg 31 23 [])) F2 fl ∧ fl 10 = (iv i) ∧ fl 11 = (iv j) ∧ (m ≤ i ∧ i ≤ j ∧ j ≤ c) ∧ (i = m ∨ key (R.getD (i - 1 - m) default) < key (L.getD 0 default)) ∧ (j = c ∨ key (L.getD 0 default) ≤ key (R.getD (j - m) default)) ∧ (Ae post wl b 55 (LA ++ L ++ R ++ LB) n) ∧ (Exc b w wl)) (fun (s : Nat × Nat) => match s with | (i, j) => j - i) (m, c) ?_ ?_
  ·exact ⟨Off.refl _ _, (hF3 10).trans (rfl), (hF3 11).trans (rfl), by omega, .inl rfl, .inl rfl, ha, hE⟩
  clear ha hE
  rintro ⟨i, j⟩ f4 w5 ⟨G6, hs7, hs8, hij, hlo, hhi, ha, hE⟩
  refine wseq (wsr (mV hs7 (mV hs8 (rV (r_lss (k := .i64) (a := (i : Int)) (b := (j : Int)) rfl rfl) (RL.nil ?_)))))
  refine wcD (p := (i : Int) < (j : Int)) rfl (fun hb9 hb9p => ?_) (fun hb9 hb9p => ?_)
  ·refine wskip ?_
   refine wblock ?_
   refine wsr (mV hs7 (mV hs8 (rV (r_add (k := .i64) (a := (i : Int)) (b := (j : Int)) (c := ((i + j : Nat) : Int)) rfl rfl ((wi64 oM).trans oM)) (rV (r_conv (k := .u64) (a := ((i + j : Nat) : Int)) (c := ((i + j : Nat) : Int)) uT3 uT77 rfl (wu64 oM)) (rV (r_shr (k := .u64) (a := ((i + j : Nat) : Int)) (b := 1) (c := (((i + j) / 2 : Nat) : Int)) rfl rfl dC (shr_one _)) (rV (r_conv (k := .i64) (a := (((i + j) / 2 : Nat) : Int)) (c := (((i + j) / 2 : Nat) : Int)) uT77 uT3 rfl (wi64 oM)) (aS (v := (iv ((i + j) / 2 : Nat))) rfl (RL.nil (wseq ?_)))))))))
   refine wdraw mixed fun w10 he11 => ?_
   have he11z := he11.size
   replace ha := ha.ext he11
   replace hE := hE.trans (Exc.of_ext he11)
   refine aM 0 rfl (v := (.func (.func kc) #[] cl.toArray)) ((G6 4 rfl).trans ((hF3 4).trans (hF0 4))) ?_
   refine aM 1 rfl (v := (.slice (some ⟨b, 0, none⟩) (n) (cap))) ((G6 0 rfl).trans ((hF3 0).trans (hF0 0))) ?_
   refine aM 2 rfl (v := (iv ((i + j) / 2 : Nat))) rfl ?_
   refine ra 3 rfl (fun _ => r_indexAddr (i := (((i + j) / 2 : Nat) : Int)) uT22 ty55 rfl rfl oM oM) ?_
   have hc12 := ha.cell (i := (((i + j) / 2 : Nat) : Int)) ((i + j) / 2) oM oM
   rw [show (LA ++ L ++ R ++ LB).getD ((i + j) / 2) default = R.getD ((i + j) / 2 - m) default from (getD_seg (LA ++ L) R LB _ _ (by simp; omega) oM)] at hc12
   refine aR 4 rfl (fun u hu => r_loada (cs := entC (R.getD ((i + j) / 2 - m) default)) uT55 ag55 ty55 rfl (fun j v hj => cell_ext hu (hc12 j v hj))) ?_
   refine aM 5 rfl (v := (.slice (some ⟨b, 0, none⟩) (n) (cap))) ((G6 0 rfl).trans ((hF3 0).trans (hF0 0))) ?_
   refine aM 6 rfl (v := (iv a)) ((G6 1 rfl).trans ((hF3 1).trans (hF0 1))) ?_
   refine ra 7 rfl (fun _ => r_indexAddr (i := (a : Int)) uT22 ty55 rfl rfl oM oM) ?_
   have hc13 := ha.cell (i := (a : Int)) (a) oM oM
   rw [show (LA ++ L ++ R ++ LB).getD (a) default = L.getD 0 default from (by rw [List.append_assoc (LA ++ L)]; exact getD_seg LA L (R ++ LB) _ _ oM oM)] at hc13
   refine aR 8 rfl (fun u hu => r_loada (cs := entC (L.getD 0 default)) uT55 ag55 ty55 rfl (fun j v hj => cell_ext hu (hc13 j v hj))) ?_
   refine RA.all [9] kR rfl ?_
   refine RS.call rfl rfl rfl dC (r_callv (vl := [(encE (R.getD ((i + j) / 2 - m) default)), (encE (L.getD 0 default))]) (cl := cl) rfl hent rfl) (hcmp _ (hw0.trans hE) (R.getD ((i + j) / 2 - m) default) (L.getD 0 default) (hok _ (List.mem_append.2 (.inr (getD_mem _ _ oM)))) (hok _ (List.mem_append.2 (.inl (getD_mem _ _ oM))))) ?_ RS.nil
   rintro _ w14 ⟨rfl, he15⟩
   refine rm he15 ?_
   replace ha := ha.ext he15
   replace hE := hE.trans (Exc.of_ext he15)
   refine ra 10 rfl (fun _ => r_lss (k := .i64) (a := cmpI (key (R.getD ((i + j) / 2 - m) default)) (key (L.getD 0 default))) (b := 0) rfl rfl) ?_
   refine RA.done kR ?_
   refine wcD (p := (cmpI (key (R.getD ((i + j) / 2 - m) default)) (key (L.getD 0 default))) < 0) rfl (fun hb16 hb16p => ?_) (fun hb16 hb16p => ?_)
   ·have hkey : key (R.getD ((i + j) / 2 - m) default) < key (L.getD 0 default) := key_lt (by have h9 := hb16p; unfold cmpI at h9; exact h9)
    refine wregion (mV (v := (iv ((i + j) / 2 : Nat))) rfl (rV (r_add (k := .i64) (a := (((i + j) / 2 : Nat) : Int)) (b := 1) (c := (((i + j) / 2 + 1 : Nat) : Int)) rfl rfl ((wi64 oM).trans oM)) (aS (v := (iv ((i + j) / 2 + 1 : Nat))) rfl (RL.nil ?_))))
    refine ⟨((i + j) / 2 + 1, j), ⟨?_, ?_, ?_, ?_, ?_, ?_, ?_, ?_⟩, ?_⟩
    · exact (by repeat (first | exact G6 | refine Off.st ?_ dC _))
    · first | rfl | exact int_eq oM | exact bool_eq (by simp)
    · refine (hs8).trans ?_
      first | rfl | exact int_eq oM | exact bool_eq (by simp)
    · omega
    · exact .inr (by rw [show (i + j) / 2 + 1 - 1 - m = (i + j) / 2 - m by omega]; exact hkey)
    · exact hhi
    · exact ha
    · exact hE
    (try dsimp only)
    omega
   have hkey : key (L.getD 0 default) ≤ key (R.getD ((i + j) / 2 - m) default) := key_ge (by have h9 := hb16p; unfold cmpI at h9; exact h9)
   refine wregion (mV (v := (iv ((i + j) / 2 : Nat))) rfl (aS (v := (iv ((i + j) / 2 : Nat))) rfl (RL.nil ?_)))
   refine ⟨(i, (i + j) / 2), ⟨?_, ?_, ?_, ?_, ?_, ?_, ?_, ?_⟩, ?_⟩
   · exact (by repeat (first | exact G6 | refine Off.st ?_ dC _))
   · refine (hs7).trans ?_
     first | rfl | exact int_eq oM | exact bool_eq (by simp)
   · first | rfl | exact int_eq oM | exact bool_eq (by simp)
   · omega
   · exact hlo
   · exact .inr hkey
   · exact ha
   · exact hE
   (try dsimp only)
   omega
  refine wexit ?_
  refine wseq (wsr (mV (v := (iv a)) ((G6 1 rfl).trans ((hF3 1).trans (hF0 1))) (aS (v := (iv a)) rfl (RL.nil ?_))))
  refine wblock ?_
  refine wset fun F17 hF18 => ?_
  refine wloop (σ := List EC × List EC) (fun (s : List EC × List EC) fl wl => match s with | (U, V) => Off (13 :: (rg 55 22 [])) F17 fl ∧ fl 13 = (iv (a + U.length : Nat)) ∧ (R.take (i - m) = U ++ V) ∧ (Ae post wl b 55 (LA ++ U ++ L.getD 0 default :: V ++ R.drop (i - m) ++ LB) n) ∧ (Exc b w wl)) (fun (s : List EC × List EC) => match s with | (U, V) => V.length) ([], R.take (i - m)) ?_ ?_
  ·exact ⟨Off.refl _ _, (hF18 13).trans ((int_eq (by simp))), by simp, (one_left LA L R LB (i - m) oM ▸ ha), hE⟩
  clear ha hE
  rintro ⟨U, V⟩ f19 w20 ⟨G21, hs22, hUV, ha, hE⟩
  have hUVl : U.length + V.length = i - m := by have := congrArg List.length hUV; simp at this; omega
  refine wseq (wsr (mV hs22 (mV (v := (iv i)) ((G21 10 rfl).trans ((hF18 10).trans hs7)) (rV (r_sub (k := .i64) (a := (i : Int)) (b := 1) (c := ((i - 1 : Nat) : Int)) rfl rfl ((wi64 oM).trans oM)) (rV (r_lss (k := .i64) (a := ((a + U.length : Nat) : Int)) (b := ((i - 1 : Nat) : Int)) rfl rfl) (RL.nil ?_))))))
  refine wcD (p := ((a + U.length : Nat) : Int) < ((i - 1 : Nat) : Int)) rfl (fun hb23 hb23p => ?_) (fun hb23 hb23p => ?_)
  ·obtain ⟨v, V', hV⟩ := cons_of V oM
   have hVl : V.length = V'.length + 1 := by rw [hV]; simp
   refine wskip ?_
   refine wseq ?_
   refine wblock ?_
   refine wdraw mixed fun w24 he25 => ?_
   have he25z := he25.size
   replace ha := ha.ext he25
   replace hE := hE.trans (Exc.of_ext he25)
   refine aM 0 rfl (v := (.slice (some ⟨b, 0, none⟩) (n) (cap))) ((G21 0 rfl).trans ((hF18 0).trans ((G6 0 rfl).trans ((hF3 0).trans (hF0 0))))) ?_
   refine aM 1 rfl (v := (iv (a + U.length : Nat))) hs22 ?_
   refine aM 2 rfl (v := (.slice (some ⟨b, 0, none⟩) (n) (cap))) ((G21 0 rfl).trans ((hF18 0).trans ((G6 0 rfl).trans ((hF3 0).trans (hF0 0))))) ?_
   refine aM 3 rfl (v := (iv (a + U.length : Nat))) hs22 ?_
   refine ra 4 rfl (fun _ => r_add (k := .i64) (a := ((a + U.length : Nat) : Int)) (b := 1) (c := ((a + U.length + 1 : Nat) : Int)) rfl rfl ((wi64 oM).trans oM)) ?_
   refine aM 5 rfl (v := (.slice (some ⟨b, 0, none⟩) (n) (cap))) ((G21 0 rfl).trans ((hF18 0).trans ((G6 0 rfl).trans ((hF3 0).trans (hF0 0))))) ?_
   refine aM 6 rfl (v := (iv (a + U.length : Nat))) hs22 ?_
   refine ra 7 rfl (fun _ => r_add (k := .i64) (a := ((a + U.length : Nat) : Int)) (b := 1) (c := ((a + U.length + 1 : Nat) : Int)) rfl rfl ((wi64 oM).trans oM)) ?_
   refine ra 8 rfl (fun _ => r_indexAddr (i := ((a + U.length + 1 : Nat) : Int)) uT22 ty55 rfl rfl oM oM) ?_
   have hc26 := ha.cell (i := ((a + U.length + 1 : Nat) : Int)) (a + U.length + 1) oM oM
   rw [show (LA ++ U ++ L.getD 0 default :: V ++ R.drop (i - m) ++ LB).getD (a + U.length + 1) default = v from (by rw [show (LA ++ U ++ L.getD 0 default :: V ++ R.drop (i - m) ++ LB) = (LA ++ U ++ [L.getD 0 default]) ++ v :: (V' ++ R.drop (i - m) ++ LB) from by rw [hV]; simp]; exact getD_mid _ _ _ _ (by simp; omega))] at hc26
   refine aR 9 rfl (fun u hu => r_loada (cs := entC v) uT55 ag55 ty55 rfl (fun j v hj => cell_ext hu (hc26 j v hj))) ?_
   refine aM 10 rfl (v := (.slice (some ⟨b, 0, none⟩) (n) (cap))) ((G21 0 rfl).trans ((hF18 0).trans ((G6 0 rfl).trans ((hF3 0).trans (hF0 0))))) ?_
   refine aM 11 rfl (v := (iv (a + U.length : Nat))) hs22 ?_
   refine ra 12 rfl (fun _ => r_indexAddr (i := ((a + U.length : Nat) : Int)) uT22 ty55 rfl rfl oM oM) ?_
   have hc27 := ha.cell (i := ((a + U.length : Nat) : Int)) (a + U.length) oM oM
   rw [show (LA ++ U ++ L.getD 0 default :: V ++ R.drop (i - m) ++ LB).getD (a + U.length) default = L.getD 0 default from (by rw [show (LA ++ U ++ L.getD 0 default :: V ++ R.drop (i - m) ++ LB) = (LA ++ U) ++ L.getD 0 default :: (V ++ R.drop (i - m) ++ LB) from by simp]; exact getD_mid _ _ _ _ (by simp; omega))] at hc27
   refine aR 13 rfl (fun u hu => r_loada (cs := entC (L.getD 0 default)) uT55 ag55 ty55 rfl (fun j v hj => cell_ext hu (hc27 j v hj))) ?_
   refine ra 14 rfl (fun _ => r_indexAddr (i := ((a + U.length : Nat) : Int)) uT22 ty55 rfl rfl oM oM) ?_
   refine RA.all [15] kR rfl ?_
   refine RS.runs rfl rfl rfl (h_setE (u := v) (i := ((a + U.length : Nat) : Int)) ty55 rfl rfl rfl ha (a + U.length) oM oM) ?_ RS.nil
   rintro w28 ⟨ha29, hx30⟩
   refine ⟨.inr (.inl kR), ?_⟩
   have hx30z := hx30.size
   replace hE := hE.trans hx30
   replace ha := ha29
   refine ra 16 rfl (fun _ => r_indexAddr (i := ((a + U.length + 1 : Nat) : Int)) uT22 ty55 rfl rfl oM oM) ?_
   refine RA.all [17] kR rfl ?_
   refine RS.runs rfl rfl rfl (h_setE (u := L.getD 0 default) (i := ((a + U.length + 1 : Nat) : Int)) ty55 rfl rfl rfl ha (a + U.length + 1) oM oM) ?_ RS.nil
   rintro w31 ⟨ha32, hx33⟩
   refine ⟨.inr (.inl kR), ?_⟩
   have hx33z := hx33.size
   replace hE := hE.trans hx33
   replace ha := ha32
   refine RA.done kR ?_
   refine wregion (mV hs22 (rV (r_add (k := .i64) (a := ((a + U.length : Nat) : Int)) (b := 1) (c := ((a + U.length : Nat) : Int) + 1) rfl rfl (wi64 oM)) (aS (v := (iv (((a + U.length : Nat) : Int) + 1))) rfl (RL.nil ?_))))
   refine ⟨(U ++ [v], V'), ⟨?_, ?_, ?_, ?_, ?_⟩, ?_⟩
   · exact (by repeat (first | exact G21 | refine Off.st ?_ dC _ | refine Off.via G6 dC ?_ | refine Off.eq hF3 ?_))
   · exact int_eq (by simp; omega)
   · rw [hUV, hV]; simp
   · rw [show (LA ++ U ++ L.getD 0 default :: V ++ R.drop (i - m) ++ LB) = (LA ++ U) ++ L.getD 0 default :: v :: (V' ++ R.drop (i - m) ++ LB) from by rw [hV]; simp, set2' _ _ _ _ _ _ _ _ (by simp; omega) (by simp; omega)] at ha; simpa using ha
   · exact hE
   (try dsimp only)
   rw [hV]; simp
  refine wexit ?_
  refine wret ?_
  refine ⟨[], trivial, ?_⟩
  have hV0 : V = [] := List.eq_nil_of_length_eq_zero oM
  obtain ⟨q1, q2⟩ := merge_left (x := L.getD 0 default) (p := i - m) hsR oM (by rcases hlo with h | h; exact .inl oM; exact .inr (by rw [show i - m - 1 = i - 1 - m by omega]; exact h)) (by rcases hhi with h | h; exact .inl oM; exact .inr (by rw [show i = j by omega]; exact h))
  refine ⟨rfl, ⟨_, ?_, q1, ?_⟩, hE⟩
  · rw [hUV, hV0]; rw [hV0] at ha; simpa using ha
  rw [list_one L oM]; exact q2
 refine wskip ?_
 refine wseq (wsr (mV (v := (iv c)) (hF0 3) (mV (v := (iv m)) (hF0 2) (rV (r_sub (k := .i64) (a := (c : Int)) (b := (m : Int)) (c := ((c - m : Nat) : Int)) rfl rfl ((wi64 oM).trans oM)) (rV (r_eql (k := .i64) (a := ((c - m : Nat) : Int)) (b := 1) rfl rfl) (RL.nil ?_))))))
 refine wcD (p := ((c - m : Nat) : Int) = 1) rfl (fun hb34 hb34p => ?_) (fun hb34 hb34p => ?_)
 ·refine wsr ?_
  refine mV (v := (iv a)) (hF0 1) (aS (v := (iv a)) rfl (RL.nil (wsr (mV (v := (iv m)) (hF0 2) (aS (v := (iv m)) rfl (RL.nil (wseq ?_)))))))
  refine wblock ?_
  refine wset fun F35 hF36 => ?_
  refine wloop (σ := Nat × Nat) (fun (s : Nat × Nat) fl wl => match s with | (i, j) => Off (rg 14 3 (rg 83 24 [])) F35 fl ∧ fl 14 = (iv i) ∧ fl 15 = (iv j) ∧ (a ≤ i ∧ i ≤ j ∧ j ≤ m) ∧ (i = a ∨ key (L.getD (i - 1 - a) default) ≤ key (R.getD 0 default)) ∧ (j = m ∨ key (R.getD 0 default) < key (L.getD (j - a) default)) ∧ (Ae post wl b 55 (LA ++ L ++ R ++ LB) n) ∧ (Exc b w wl)) (fun (s : Nat × Nat) => match s with | (i, j) => j - i) (a, m) ?_ ?_
  ·exact ⟨Off.refl _ _, (hF36 14).trans (rfl), (hF36 15).trans (rfl), by omega, .inl rfl, .inl rfl, ha, hE⟩
  clear ha hE
  rintro ⟨i, j⟩ f37 w38 ⟨G39, hs40, hs41, hij, hlo, hhi, ha, hE⟩
  refine wseq (wsr (mV hs40 (mV hs41 (rV (r_lss (k := .i64) (a := (i : Int)) (b := (j : Int)) rfl rfl) (RL.nil ?_)))))
  refine wcD (p := (i : Int) < (j : Int)) rfl (fun hb42 hb42p => ?_) (fun hb42 hb42p => ?_)
  ·refine wskip ?_
   refine wblock ?_
   refine wsr (mV hs40 (mV hs41 (rV (r_add (k := .i64) (a := (i : Int)) (b := (j : Int)) (c := ((i + j : Nat) : Int)) rfl rfl ((wi64 oM).trans oM)) (rV (r_conv (k := .u64) (a := ((i + j : Nat) : Int)) (c := ((i + j : Nat) : Int)) uT3 uT77 rfl (wu64 oM)) (rV (r_shr (k := .u64) (a := ((i + j : Nat) : Int)) (b := 1) (c := (((i + j) / 2 : Nat) : Int)) rfl rfl dC (shr_one _)) (rV (r_conv (k := .i64) (a := (((i + j) / 2 : Nat) : Int)) (c := (((i + j) / 2 : Nat) : Int)) uT77 uT3 rfl (wi64 oM)) (aS (v := (iv ((i + j) / 2 : Nat))) rfl (RL.nil (wseq ?_)))))))))
   refine wdraw mixed fun w43 he44 => ?_
   have he44z := he44.size
   replace ha := ha.ext he44
   replace hE := hE.trans (Exc.of_ext he44)
   refine aM 0 rfl (v := (.func (.func kc) #[] cl.toArray)) ((G39 4 rfl).trans ((hF36 4).trans (hF0 4))) ?_
   refine aM 1 rfl (v := (.slice (some ⟨b, 0, none⟩) (n) (cap))) ((G39 0 rfl).trans ((hF36 0).trans (hF0 0))) ?_
   refine aM 2 rfl (v := (iv m)) ((G39 2 rfl).trans ((hF36 2).trans (hF0 2))) ?_
   refine ra 3 rfl (fun _ => r_indexAddr (i := (m : Int)) uT22 ty55 rfl rfl oM oM) ?_
   have hc45 := ha.cell (i := (m : Int)) (m) oM oM
   rw [show (LA ++ L ++ R ++ LB).getD (m) default = R.getD 0 default from (getD_seg (LA ++ L) R LB _ _ (by simp; omega) oM)] at hc45
   refine aR 4 rfl (fun u hu => r_loada (cs := entC (R.getD 0 default)) uT55 ag55 ty55 rfl (fun j v hj => cell_ext hu (hc45 j v hj))) ?_
   refine aM 5 rfl (v := (.slice (some ⟨b, 0, none⟩) (n) (cap))) ((G39 0 rfl).trans ((hF36 0).trans (hF0 0))) ?_
   refine aM 6 rfl (v := (iv ((i + j) / 2 : Nat))) rfl ?_
   refine ra 7 rfl (fun _ => r_indexAddr (i := (((i + j) / 2 : Nat) : Int)) uT22 ty55 rfl rfl oM oM) ?_
   have hc46 := ha.cell (i := (((i + j) / 2 : Nat) : Int)) ((i + j) / 2) oM oM
   rw [show (LA ++ L ++ R ++ LB).getD ((i + j) / 2) default = L.getD ((i + j) / 2 - a) default from (by rw [List.append_assoc (LA ++ L)]; exact getD_seg LA L (R ++ LB) _ _ oM oM)] at hc46
   refine aR 8 rfl (fun u hu => r_loada (cs := entC (L.getD ((i + j) / 2 - a) default)) uT55 ag55 ty55 rfl (fun j v hj => cell_ext hu (hc46 j v hj))) ?_
   refine RA.all [9] kR rfl ?_
   refine RS.call rfl rfl rfl dC (r_callv (vl := [(encE (R.getD 0 default)), (encE (L.getD ((i + j) / 2 - a) default))]) (cl := cl) rfl hent rfl) (hcmp _ (hw0.trans hE) (R.getD 0 default) (L.getD ((i + j) / 2 - a) default) (hok _ (List.mem_append.2 (.inr (getD_mem _ _ oM)))) (hok _ (List.mem_append.2 (.inl (getD_mem _ _ oM))))) ?_ RS.nil
   rintro _ w47 ⟨rfl, he48⟩
   refine rm he48 ?_
   replace ha := ha.ext he48
   replace hE := hE.trans (Exc.of_ext he48)
   refine ra 10 rfl (fun _ => r_lss (k := .i64) (a := cmpI (key (R.getD 0 default)) (key (L.getD ((i + j) / 2 - a) default))) (b := 0) rfl rfl) ?_
   refine ra 11 rfl (fun _ => r_not rfl) ?_
   refine RA.done kR ?_
   refine wcond (b := !(decide ((cmpI (key (R.getD 0 default)) (key (L.getD ((i + j) / 2 - a) default))) < 0))) rfl (fun hb49 => ?_) (fun hb49 => ?_)
   ·have hb49p := hb49
    have hkey0 : ¬ cmpI (key (R.getD 0 default)) (key (L.getD ((i + j) / 2 - a) default)) < 0 := by simpa using hb49p
    have hkey : key (L.getD ((i + j) / 2 - a) default) ≤ key (R.getD 0 default) := key_ge (by unfold cmpI at hkey0; exact hkey0)
    refine wregion (mV (v := (iv ((i + j) / 2 : Nat))) rfl (rV (r_add (k := .i64) (a := (((i + j) / 2 : Nat) : Int)) (b := 1) (c := (((i + j) / 2 + 1 : Nat) : Int)) rfl rfl ((wi64 oM).trans oM)) (aS (v := (iv ((i + j) / 2 + 1 : Nat))) rfl (RL.nil ?_))))
    refine ⟨((i + j) / 2 + 1, j), ⟨?_, ?_, ?_, ?_, ?_, ?_, ?_, ?_⟩, ?_⟩
    · exact (by repeat (first | exact G39 | refine Off.st ?_ dC _))
    · first | rfl | exact int_eq oM | exact bool_eq (by simp)
    · refine (hs41).trans ?_
      first | rfl | exact int_eq oM | exact bool_eq (by simp)
    · omega
    · exact .inr (by rw [show (i + j) / 2 + 1 - 1 - a = (i + j) / 2 - a by omega]; exact hkey)
    · exact hhi
    · exact ha
    · exact hE
    (try dsimp only)
    omega
   have hb49p := hb49
   have hkey0 : cmpI (key (R.getD 0 default)) (key (L.getD ((i + j) / 2 - a) default)) < 0 := by simpa using hb49p
   have hkey : key (R.getD 0 default) < key (L.getD ((i + j) / 2 - a) default) := key_lt (by unfold cmpI at hkey0; exact hkey0)
   refine wregion (mV (v := (iv ((i + j) / 2 : Nat))) rfl (aS (v := (iv ((i + j) / 2 : Nat))) rfl (RL.nil ?_)))
   refine ⟨(i, (i + j) / 2), ⟨?_, ?_, ?_, ?_, ?_, ?_, ?_, ?_⟩, ?_⟩
   · exact (by repeat (first | exact G39 | refine Off.st ?_ dC _))
   · refine (hs40).trans ?_
     first | rfl | exact int_eq oM | exact bool_eq (by simp)
   · first | rfl | exact int_eq oM | exact bool_eq (by simp)
   · omega
   · exact hlo
   · exact .inr hkey
   · exact ha
   · exact hE
   (try dsimp only)
   omega
  refine wexit ?_
  refine wseq (wsr (mV (v := (iv m)) ((G39 2 rfl).trans ((hF36 2).trans (hF0 2))) (aS (v := (iv m)) rfl (RL.nil ?_))))
  refine wblock ?_
  refine wset fun F50 hF51 => ?_
  refine wloop (σ := List EC × List EC) (fun (s : List EC × List EC) fl wl => match s with | (U, V) => Off (17 :: (rg 108 21 [])) F50 fl ∧ fl 17 = (iv (i + U.length : Nat)) ∧ (L.drop (i - a) = U ++ V) ∧ (Ae post wl b 55 (LA ++ L.take (i - a) ++ U ++ R.getD 0 default :: V ++ LB) n) ∧ (Exc b w wl)) (fun (s : List EC × List EC) => match s with | (U, V) => U.length) (L.drop (i - a), []) ?_ ?_
  ·exact ⟨Off.refl _ _, (hF51 17).trans ((int_eq (by simp; omega))), by simp, (one_right LA L R LB (i - a) oM ▸ ha), hE⟩
  clear ha hE
  rintro ⟨U, V⟩ f52 w53 ⟨G54, hs55, hUV, ha, hE⟩
  have hUVl : U.length + V.length = m - i := by have := congrArg List.length hUV; simp at this; omega
  refine wseq (wsr (mV hs55 (mV (v := (iv i)) ((G54 14 rfl).trans ((hF51 14).trans hs40)) (rV (r_gtr (k := .i64) (a := ((i + U.length : Nat) : Int)) (b := (i : Int)) rfl rfl) (RL.nil ?_)))))
  refine wcD (p := (i : Int) < ((i + U.length : Nat) : Int)) rfl (fun hb56 hb56p => ?_) (fun hb56 hb56p => ?_)
  ·obtain ⟨U', z, hU⟩ := snoc_of U oM
   have hUl : U.length = U'.length + 1 := by rw [hU]; simp
   refine wskip ?_
   refine wseq ?_
   refine wblock ?_
   refine wdraw mixed fun w57 he58 => ?_
   have he58z := he58.size
   replace ha := ha.ext he58
   replace hE := hE.trans (Exc.of_ext he58)
   refine aM 0 rfl (v := (.slice (some ⟨b, 0, none⟩) (n) (cap))) ((G54 0 rfl).trans ((hF51 0).trans ((G39 0 rfl).trans ((hF36 0).trans (hF0 0))))) ?_
   refine aM 1 rfl (v := (iv (i + U.length : Nat))) hs55 ?_
   refine aM 2 rfl (v := (.slice (some ⟨b, 0, none⟩) (n) (cap))) ((G54 0 rfl).trans ((hF51 0).trans ((G39 0 rfl).trans ((hF36 0).trans (hF0 0))))) ?_
   refine aM 3 rfl (v := (iv (i + U.length : Nat))) hs55 ?_
   refine ra 4 rfl (fun _ => r_sub (k := .i64) (a := ((i + U.length : Nat) : Int)) (b := 1) (c := ((i + U.length - 1 : Nat) : Int)) rfl rfl ((wi64 oM).trans oM)) ?_
   refine aM 5 rfl (v := (.slice (some ⟨b, 0, none⟩) (n) (cap))) ((G54 0 rfl).trans ((hF51 0).trans ((G39 0 rfl).trans ((hF36 0).trans (hF0 0))))) ?_
   refine aM 6 rfl (v := (iv (i + U.length : Nat))) hs55 ?_
   refine ra 7 rfl (fun _ => r_sub (k := .i64) (a := ((i + U.length : Nat) : Int)) (b := 1) (c := ((i + U.length - 1 : Nat) : Int)) rfl rfl ((wi64 oM).trans oM)) ?_
   refine ra 8 rfl (fun _ => r_indexAddr (i := ((i + U.length - 1 : Nat) : Int)) uT22 ty55 rfl rfl oM oM) ?_
   have hc59 := ha.cell (i := ((i + U.length - 1 : Nat) : Int)) (i + U.length - 1) oM oM
   rw [show (LA ++ L.take (i - a) ++ U ++ R.getD 0 default :: V ++ LB).getD (i + U.length - 1) default = z from (by rw [show (LA ++ L.take (i - a) ++ U ++ R.getD 0 default :: V ++ LB) = (LA ++ L.take (i - a) ++ U') ++ z :: (R.getD 0 default :: V ++ LB) from by rw [hU]; simp]; exact getD_mid _ _ _ _ (by simp; omega))] at hc59
   refine aR 9 rfl (fun u hu => r_loada (cs := entC z) uT55 ag55 ty55 rfl (fun j v hj => cell_ext hu (hc59 j v hj))) ?_
   refine aM 10 rfl (v := (.slice (some ⟨b, 0, none⟩) (n) (cap))) ((G54 0 rfl).trans ((hF51 0).trans ((G39 0 rfl).trans ((hF36 0).trans (hF0 0))))) ?_
   refine aM 11 rfl (v := (iv (i + U.length : Nat))) hs55 ?_
   refine ra 12 rfl (fun _ => r_indexAddr (i := ((i + U.length : Nat) : Int)) uT22 ty55 rfl rfl oM oM) ?_
   have hc60 := ha.cell (i := ((i + U.length : Nat) : Int)) (i + U.length) oM oM
   rw [show (LA ++ L.take (i - a) ++ U ++ R.getD 0 default :: V ++ LB).getD (i + U.length) default = R.getD 0 default from (by rw [show (LA ++ L.take (i - a) ++ U ++ R.getD 0 default :: V ++ LB) = (LA ++ L.take (i - a) ++ U) ++ R.getD 0 default :: (V ++ LB) from by simp]; exact getD_mid _ _ _ _ (by simp; omega))] at hc60
   refine aR 13 rfl (fun u hu => r_loada (cs := entC (R.getD 0 default)) uT55 ag55 ty55 rfl (fun j v hj => cell_ext hu (hc60 j v hj))) ?_
   refine ra 14 rfl (fun _ => r_indexAddr (i := ((i + U.length : Nat) : Int)) uT22 ty55 rfl rfl oM oM) ?_
   refine RA.all [15] kR rfl ?_
   refine RS.runs rfl rfl rfl (h_setE (u := z) (i := ((i + U.length : Nat) : Int)) ty55 rfl rfl rfl ha (i + U.length) oM oM) ?_ RS.nil
   rintro w61 ⟨ha62, hx63⟩
   refine ⟨.inr (.inl kR), ?_⟩
   have hx63z := hx63.size
   replace hE := hE.trans hx63
   replace ha := ha62
   refine ra 16 rfl (fun _ => r_indexAddr (i := ((i + U.length - 1 : Nat) : Int)) uT22 ty55 rfl rfl oM oM) ?_
   refine RA.all [17] kR rfl ?_
   refine RS.runs rfl rfl rfl (h_setE (u := R.getD 0 default) (i := ((i + U.length - 1 : Nat) : Int)) ty55 rfl rfl rfl ha (i + U.length - 1) oM oM) ?_ RS.nil
   rintro w64 ⟨ha65, hx66⟩
   refine ⟨.inr (.inl kR), ?_⟩
   have hx66z := hx66.size
   replace hE := hE.trans hx66
   replace ha := ha65
   refine RA.done kR ?_
   refine wregion (mV hs55 (rV (r_sub (k := .i64) (a := ((i + U.length : Nat) : Int)) (b := 1) (c := ((i + U.length : Nat) : Int) - 1) rfl rfl (wi64 oM)) (aS (v := (iv (((i + U.length : Nat) : Int) - 1))) rfl (RL.nil ?_))))
   refine ⟨(U', z :: V), ⟨?_, ?_, ?_, ?_, ?_⟩, ?_⟩
   · exact (by repeat (first | exact G54 | refine Off.st ?_ dC _ | refine Off.via G39 dC ?_ | refine Off.eq hF36 ?_))
   · exact int_eq oM
   · rw [hUV, hU]; simp
   · rw [show (LA ++ L.take (i - a) ++ U ++ R.getD 0 default :: V ++ LB) = (LA ++ L.take (i - a) ++ U') ++ z :: R.getD 0 default :: (V ++ LB) from by rw [hU]; simp, set2 _ _ _ _ _ _ _ _ (by simp; omega) (by simp; omega)] at ha; simpa using ha
   · exact hE
   (try dsimp only)
   omega
  refine wexit ?_
  refine wret ?_
  refine ⟨[], trivial, ?_⟩
  have hU0 : U = [] := List.eq_nil_of_length_eq_zero oM
  obtain ⟨q1, q2⟩ := merge_right (y := R.getD 0 default) (q := i - a) hsL oM (by rcases hlo with h | h; exact .inl oM; exact .inr (by rw [show i - a - 1 = i - 1 - a by omega]; exact h)) (by rcases hhi with h | h; exact .inl oM; exact .inr (by rw [show i = j by omega]; exact h))
  refine ⟨rfl, ⟨_, ?_, q1, ?_⟩, hE⟩
  · rw [hUV, hU0]; rw [hU0] at ha; simpa using ha
  rw [list_one R oM]; exact q2
 refine wskip ?_
 refine wsr (mV (v := (iv a)) (hF0 1) (mV (v := (iv c)) (hF0 3) (rV (r_add (k := .i64) (a := (a : Int)) (b := (c : Int)) (c := ((a + c : Nat) : Int)) rfl rfl ((wi64 oM).trans oM)) (rV (r_conv (k := .u64) (a := ((a + c : Nat) : Int)) (c := ((a + c : Nat) : Int)) uT3 uT77 rfl (wu64 oM)) (rV (r_shr (k := .u64) (a := ((a + c : Nat) : Int)) (b := 1) (c := (((a + c) / 2 : Nat) : Int)) rfl rfl dC (shr_one _)) (rV (r_conv (k := .i64) (a := (((a + c) / 2 : Nat) : Int)) (c := (((a + c) / 2 : Nat) : Int)) uT77 uT3 rfl (wi64 oM)) (aS (v := (iv ((a + c) / 2 : Nat))) rfl (RL.nil (wsr (mV (v := (iv ((a + c) / 2 : Nat))) rfl (mV (v := (iv m)) (hF0 2) (rV (r_add (k := .i64) (a := (((a + c) / 2 : Nat) : Int)) (b := (m : Int)) (c := (((a + c) / 2 + m : Nat) : Int)) rfl rfl ((wi64 oM).trans oM)) (aS (v := (iv ((a + c) / 2 + m : Nat))) rfl (RL.nil (wsr (aS (v := (iv 0)) rfl (aS (v := (iv 0)) rfl (RL.nil ?_))))))))))))))))))
 refine wset fun F67 hF68 => ?_
 refine wcut (fun fl wl => ∃ lo : Nat, ∃ hi : Nat, Off (rg 20 2 (rg 138 9 [])) F67 fl ∧ fl 20 = (iv lo) ∧ fl 21 = (iv hi) ∧ (a ≤ lo ∧ lo ≤ hi ∧ hi ≤ m ∧ hi ≤ (a + c) / 2 ∧ (a + c) / 2 + m ≤ c + lo ∧ (lo = a ∨ (a + c) / 2 + m = c + lo) ∧ (hi = m ∨ hi = (a + c) / 2)) ∧ (Ae post wl b 55 (LA ++ L ++ R ++ LB) n) ∧ (Exc b w wl)) ?_ ?_
 ·have G69 := Off.refl (rg 20 2 (rg 138 9 [])) F67
  refine wsr (mV (v := (iv m)) ((hF68 2).trans (hF0 2)) (mV (v := (iv ((a + c) / 2 : Nat))) (hF68 18) (rV (r_gtr (k := .i64) (a := (m : Int)) (b := (((a + c) / 2 : Nat) : Int)) rfl rfl) (RL.nil ?_))))
  refine wcD (p := (((a + c) / 2 : Nat) : Int) < (m : Int)) rfl (fun hb70 hb70p => ?_) (fun hb70 hb70p => ?_)
  ·refine wsr ?_
   refine mV (v := (iv ((a + c) / 2 + m : Nat))) (hF68 19) (mV (v := (iv c)) ((hF68 3).trans (hF0 3)) (rV (r_sub (k := .i64) (a := (((a + c) / 2 + m : Nat) : Int)) (b := (c : Int)) (c := (((a + c) / 2 + m - c : Nat) : Int)) rfl rfl ((wi64 oM).trans oM)) (aS (v := (iv ((a + c) / 2 + m - c : Nat))) rfl (RL.nil (wregion (mV (v := (iv ((a + c) / 2 : Nat))) (hF68 18) (aS (v := (iv ((a + c) / 2 : Nat))) rfl (RL.nil ?_))))))))
   refine ⟨(a + c) / 2 + m - c, (a + c) / 2, ?_, ?_, ?_, ?_, ?_, ?_⟩
   · exact (by repeat (first | exact G69 | refine Off.st ?_ dC _))
   · first | rfl | exact int_eq oM | exact bool_eq (by simp)
   · first | rfl | exact int_eq oM | exact bool_eq (by simp)
   · omega
   · exact ha
   exact hE
  refine wsr (mV (v := (iv a)) ((hF68 1).trans (hF0 1)) (aS (v := (iv a)) rfl (RL.nil (wregion (mV (v := (iv m)) ((hF68 2).trans (hF0 2)) (aS (v := (iv m)) rfl (RL.nil ?_)))))))
  refine ⟨a, m, ?_, ?_, ?_, ?_, ?_, ?_⟩
  · exact (by repeat (first | exact G69 | refine Off.st ?_ dC _))
  · first | rfl | exact int_eq oM | exact bool_eq (by simp)
  · first | rfl | exact int_eq oM | exact bool_eq (by simp)
  · omega
  · exact ha
  exact hE
 clear ha hE
 rintro f71 w72 ⟨lo, hi, G73, hs74, hs75, hlh, ha, hE⟩
 refine wsr (mV (v := (iv ((a + c) / 2 + m : Nat))) ((G73 19 rfl).trans (hF68 19)) (rV (r_sub (k := .i64) (a := (((a + c) / 2 + m : Nat) : Int)) (b := 1) (c := (((a + c) / 2 + m - 1 : Nat) : Int)) rfl rfl ((wi64 oM).trans oM)) (aS (v := (iv ((a + c) / 2 + m - 1 : Nat))) rfl (RL.nil (wseq ?_)))))
 refine wblock ?_
 refine wset fun F76 hF77 => ?_
 refine wloop (σ := Nat × Nat) (fun (s : Nat × Nat) fl wl => match s with | (s, r) => Off (rg 20 2 (23 :: (rg 149 26 []))) F76 fl ∧ fl 20 = (iv s) ∧ fl 21 = (iv r) ∧ (lo ≤ s ∧ s ≤ r ∧ r ≤ hi) ∧ (s = lo ∨ key (L.getD (s - 1 - a) default) ≤ key (R.getD ((a + c) / 2 - s) default)) ∧ (r = hi ∨ key (R.getD ((a + c) / 2 - 1 - r) default) < key (L.getD (r - a) default)) ∧ (Ae post wl b 55 (LA ++ L ++ R ++ LB) n) ∧ (Exc b w wl)) (fun (s : Nat × Nat) => match s with | (s, r) => r - s) (lo, hi) ?_ ?_
 ·exact ⟨Off.refl _ _, (hF77 20).trans ((hs74).trans rfl), (hF77 21).trans ((hs75).trans rfl), by omega, .inl rfl, .inl rfl, ha, hE⟩
 clear ha hE
 rintro ⟨s, r⟩ f78 w79 ⟨G80, hs81, hs82, hsr, hlo2, hhi2, ha, hE⟩
 refine wseq (wsr (mV hs81 (mV hs82 (rV (r_lss (k := .i64) (a := (s : Int)) (b := (r : Int)) rfl rfl) (RL.nil ?_)))))
 refine wcD (p := (s : Int) < (r : Int)) rfl (fun hb83 hb83p => ?_) (fun hb83 hb83p => ?_)
 ·refine wskip ?_
  refine wblock ?_
  refine wsr (mV hs81 (mV hs82 (rV (r_add (k := .i64) (a := (s : Int)) (b := (r : Int)) (c := ((s + r : Nat) : Int)) rfl rfl ((wi64 oM).trans oM)) (rV (r_conv (k := .u64) (a := ((s + r : Nat) : Int)) (c := ((s + r : Nat) : Int)) uT3 uT77 rfl (wu64 oM)) (rV (r_shr (k := .u64) (a := ((s + r : Nat) : Int)) (b := 1) (c := (((s + r) / 2 : Nat) : Int)) rfl rfl dC (shr_one _)) (rV (r_conv (k := .i64) (a := (((s + r) / 2 : Nat) : Int)) (c := (((s + r) / 2 : Nat) : Int)) uT77 uT3 rfl (wi64 oM)) (aS (v := (iv ((s + r) / 2 : Nat))) rfl (RL.nil (wseq ?_)))))))))
  refine wdraw mixed fun w84 he85 => ?_
  have he85z := he85.size
  replace ha := ha.ext he85
  replace hE := hE.trans (Exc.of_ext he85)
  refine aM 0 rfl (v := (.func (.func kc) #[] cl.toArray)) ((G80 4 rfl).trans ((hF77 4).trans ((G73 4 rfl).trans ((hF68 4).trans (hF0 4))))) ?_
  refine aM 1 rfl (v := (.slice (some ⟨b, 0, none⟩) (n) (cap))) ((G80 0 rfl).trans ((hF77 0).trans ((G73 0 rfl).trans ((hF68 0).trans (hF0 0))))) ?_
  refine aM 2 rfl (v := (iv ((a + c) / 2 + m - 1 : Nat))) ((G80 22 rfl).trans (hF77 22)) ?_
  refine aM 3 rfl (v := (iv ((s + r) / 2 : Nat))) rfl ?_
  refine ra 4 rfl (fun _ => r_sub (k := .i64) (a := (((a + c) / 2 + m - 1 : Nat) : Int)) (b := (((s + r) / 2 : Nat) : Int)) (c := (((a + c) / 2 + m - 1 - (s + r) / 2 : Nat) : Int)) rfl rfl ((wi64 oM).trans oM)) ?_
  refine ra 5 rfl (fun _ => r_indexAddr (i := (((a + c) / 2 + m - 1 - (s + r) / 2 : Nat) : Int)) uT22 ty55 rfl rfl oM oM) ?_
  have hc86 := ha.cell (i := (((a + c) / 2 + m - 1 - (s + r) / 2 : Nat) : Int)) ((a + c) / 2 + m - 1 - (s + r) / 2) oM oM
  rw [show (LA ++ L ++ R ++ LB).getD ((a + c) / 2 + m - 1 - (s + r) / 2) default = R.getD ((a + c) / 2 - 1 - (s + r) / 2) default from (getD_seg (LA ++ L) R LB _ _ (by simp; omega) oM)] at hc86
  refine aR 6 rfl (fun u hu => r_loada (cs := entC (R.getD ((a + c) / 2 - 1 - (s + r) / 2) default)) uT55 ag55 ty55 rfl (fun j v hj => cell_ext hu (hc86 j v hj))) ?_
  refine aM 7 rfl (v := (.slice (some ⟨b, 0, none⟩) (n) (cap))) ((G80 0 rfl).trans ((hF77 0).trans ((G73 0 rfl).trans ((hF68 0).trans (hF0 0))))) ?_
  refine aM 8 rfl (v := (iv ((s + r) / 2 : Nat))) rfl ?_
  refine ra 9 rfl (fun _ => r_indexAddr (i := (((s + r) / 2 : Nat) : Int)) uT22 ty55 rfl rfl oM oM) ?_
  have hc87 := ha.cell (i := (((s + r) / 2 : Nat) : Int)) ((s + r) / 2) oM oM
  rw [show (LA ++ L ++ R ++ LB).getD ((s + r) / 2) default = L.getD ((s + r) / 2 - a) default from (by rw [List.append_assoc (LA ++ L)]; exact getD_seg LA L (R ++ LB) _ _ oM oM)] at hc87
  refine aR 10 rfl (fun u hu => r_loada (cs := entC (L.getD ((s + r) / 2 - a) default)) uT55 ag55 ty55 rfl (fun j v hj => cell_ext hu (hc87 j v hj))) ?_
  refine RA.all [11] kR rfl ?_
  refine RS.call rfl rfl rfl dC (r_callv (vl := [(encE (R.getD ((a + c) / 2 - 1 - (s + r) / 2) default)), (encE (L.getD ((s + r) / 2 - a) default))]) (cl := cl) rfl hent rfl) (hcmp _ (hw0.trans hE) (R.getD ((a + c) / 2 - 1 - (s + r) / 2) default) (L.getD ((s + r) / 2 - a) default) (hok _ (List.mem_append.2 (.inr (getD_mem _ _ oM)))) (hok _ (List.mem_append.2 (.inl (getD_mem _ _ oM))))) ?_ RS.nil
  rintro _ w88 ⟨rfl, he89⟩
  refine rm he89 ?_
  replace ha := ha.ext he89
  replace hE := hE.trans (Exc.of_ext he89)
  refine ra 12 rfl (fun _ => r_lss (k := .i64) (a := cmpI (key (R.getD ((a + c) / 2 - 1 - (s + r) / 2) default)) (key (L.getD ((s + r) / 2 - a) default))) (b := 0) rfl rfl) ?_
  refine ra 13 rfl (fun _ => r_not rfl) ?_
  refine RA.done kR ?_
  refine wcond (b := !(decide ((cmpI (key (R.getD ((a + c) / 2 - 1 - (s + r) / 2) default)) (key (L.getD ((s + r) / 2 - a) default))) < 0))) rfl (fun hb90 => ?_) (fun hb90 => ?_)
  ·have hb90p := hb90
   have hkey0 : ¬ cmpI (key (R.getD ((a + c) / 2 - 1 - (s + r) / 2) default)) (key (L.getD ((s + r) / 2 - a) default)) < 0 := by simpa using hb90p
   have hkey : key (L.getD ((s + r) / 2 - a) default) ≤ key (R.getD ((a + c) / 2 - 1 - (s + r) / 2) default) := key_ge (by unfold cmpI at hkey0; exact hkey0)
   refine wregion (mV (v := (iv ((s + r) / 2 : Nat))) rfl (rV (r_add (k := .i64) (a := (((s + r) / 2 : Nat) : Int)) (b := 1) (c := (((s + r) / 2 + 1 : Nat) : Int)) rfl rfl ((wi64 oM).trans oM)) (aS (v := (iv ((s + r) / 2 + 1 : Nat))) rfl (RL.nil ?_))))
   refine ⟨((s + r) / 2 + 1, r), ⟨?_, ?_, ?_, ?_, ?_, ?_, ?_, ?_⟩, ?_⟩
   · exact (by repeat (first | exact G80 | refine Off.st ?_ dC _ | refine Off.via G73 dC ?_ | refine Off.eq hF68 ?_))
   · first | rfl | exact int_eq oM | exact bool_eq (by simp)
   · refine (hs82).trans ?_
     first | rfl | exact int_eq oM | exact bool_eq (by simp)
   · omega
   · exact .inr (by rw [show (s + r) / 2 + 1 - 1 - a = (s + r) / 2 - a by omega, show (a + c) / 2 - ((s + r) / 2 + 1) = (a + c) / 2 - 1 - (s + r) / 2 by omega]; exact hkey)
   · exact hhi2
   · exact ha
   · exact hE
   (try dsimp only)
   omega
  have hb90p := hb90
  have hkey0 : cmpI (key (R.getD ((a + c) / 2 - 1 - (s + r) / 2) default)) (key (L.getD ((s + r) / 2 - a) default)) < 0 := by simpa using hb90p
  have hkey : key (R.getD ((a + c) / 2 - 1 - (s + r) / 2) default) < key (L.getD ((s + r) / 2 - a) default) := key_lt (by unfold cmpI at hkey0; exact hkey0)
  refine wregion (mV (v := (iv ((s + r) / 2 : Nat))) rfl (aS (v := (iv ((s + r) / 2 : Nat))) rfl (RL.nil ?_)))
  refine ⟨(s, (s + r) / 2), ⟨?_, ?_, ?_, ?_, ?_, ?_, ?_, ?_⟩, ?_⟩
  · exact (by repeat (first | exact G80 | refine Off.st ?_ dC _ | refine Off.via G73 dC ?_ | refine Off.eq hF68 ?_))
  · refine (hs81).trans ?_
    first | rfl | exact int_eq oM | exact bool_eq (by simp)
  · first | rfl | exact int_eq oM | exact bool_eq (by simp)
  · omega
  · exact hlo2
  · exact .inr hkey
  · exact ha
  · exact hE
  (try dsimp only)
  omega
 refine wexit ?_
 refine wsr (mV (v := (iv ((a + c) / 2 + m : Nat))) ((G80 19 rfl).trans ((hF77 19).trans ((G73 19 rfl).trans (hF68 19)))) (mV hs81 (rV (r_sub (k := .i64) (a := (((a + c) / 2 + m : Nat) : Int)) (b := (s : Int)) (c := (((a + c) / 2 + m - s : Nat) : Int)) rfl rfl ((wi64 oM).trans oM)) (aS (v := (iv ((a + c) / 2 + m - s : Nat))) rfl (RL.nil ?_)))))
 refine wset fun F91 hF92 => ?_
 refine wcut (fun fl wl => Off (rg 178 14 []) F91 fl ∧ (Ae post wl b 55 (LA ++ L.take (s - a) ++ R.take ((a + c) / 2 - s) ++ (L.drop (s - a) ++ R.drop ((a + c) / 2 - s) ++ LB)) n) ∧ (Exc b w wl)) ?_ ?_
 ·have G93 := Off.refl (rg 178 14 []) F91
  refine wsr (mV (v := (iv s)) ((hF92 20).trans hs81) (mV (v := (iv m)) ((hF92 2).trans ((G80 2 rfl).trans ((hF77 2).trans ((G73 2 rfl).trans ((hF68 2).trans (hF0 2)))))) (rV (r_lss (k := .i64) (a := (s : Int)) (b := (m : Int)) rfl rfl) (mV (v := (bd ((s : Int) < (m : Int)))) rfl ?_))))
  rcases bD ((s : Int) < (m : Int)) with ⟨hb94, hb94p⟩ | ⟨hb94, hb94p⟩
  ·refine RL.gval rfl rfl (bool_eq hb94) rfl dC (r_move_as (v := (iv m)) ((hF92 2).trans ((G80 2 rfl).trans ((hF77 2).trans ((G73 2 rfl).trans ((hF68 2).trans (hF0 2))))))) ?_
   refine RL.gval rfl rfl (bool_eq hb94) rfl dC (r_move_as (v := (iv ((a + c) / 2 + m - s : Nat))) (hF92 24)) ?_
   refine RL.gval rfl rfl (bool_eq hb94) rfl dC (r_lss (k := .i64) (a := (m : Int)) (b := (((a + c) / 2 + m - s : Nat) : Int)) rfl rfl) ?_
   refine rV (r_pick_t (v := (bd ((m : Int) < (((a + c) / 2 + m - s : Nat) : Int)))) (bool_eq hb94) rfl) (RL.nil ?_)
   refine wcD (p := (m : Int) < (((a + c) / 2 + m - s : Nat) : Int)) rfl (fun hb95 hb95p => ?_) (fun hb95 hb95p => ?_)
   ·refine wregion ?_
    refine mV (v := (.slice (some ⟨b, 0, none⟩) (n) (cap))) ((hF92 0).trans ((G80 0 rfl).trans ((hF77 0).trans ((G73 0 rfl).trans ((hF68 0).trans (hF0 0)))))) (mV (v := (iv s)) ((hF92 20).trans hs81) (mV (v := (iv m)) ((hF92 2).trans ((G80 2 rfl).trans ((hF77 2).trans ((G73 2 rfl).trans ((hF68 2).trans (hF0 2)))))) (mV (v := (iv ((a + c) / 2 + m - s : Nat))) (hF92 24) (mV (v := (.func (.func kc) #[] cl.toArray)) ((hF92 4).trans ((G80 4 rfl).trans ((hF77 4).trans ((G73 4 rfl).trans ((hF68 4).trans (hF0 4)))))) ?_))))
    refine RL.call rfl rfl dC (r_call (vl := [(.slice (some ⟨b, 0, none⟩) (n) (cap)), (iv s), (iv m), (iv ((a + c) / 2 + m - s : Nat)), (.func (.func kc) #[] cl.toArray)]) ent132 rfl) (rotate_ent (xs := (LA ++ L ++ R ++ LB)) (LA := LA ++ L.take (s - a)) (LU := L.drop (s - a)) (LV := R.take ((a + c) / 2 - s)) (LB := R.drop ((a + c) / 2 - s) ++ LB) ha hsz (yes_rot _ _ _ _ _ _) (by simp; omega) (by simp; omega) (by simp; omega) (by simp; omega) (by simp; omega)) ?_
    rintro _ w96 ⟨rfl, ha97, hx98⟩
    replace hE := hE.trans hx98
    replace ha := ha97
    refine RL.nil ?_
    refine ⟨?_, ?_, ?_⟩
    · exact (by repeat (first | exact G93 | refine Off.st ?_ dC _ | refine Off.via G80 dC ?_ | refine Off.eq hF77 ?_ | refine Off.via G73 dC ?_ | refine Off.eq hF68 ?_))
    · simpa [List.append_assoc] using ha
    exact hE
   refine wskip ?_
   refine ⟨?_, ?_, ?_⟩
   · exact (by repeat (first | exact G93 | refine Off.st ?_ dC _ | refine Off.via G80 dC ?_ | refine Off.eq hF77 ?_ | refine Off.via G73 dC ?_ | refine Off.eq hF68 ?_))
   · rw [← no_rot LA L R LB _ _ oM]; exact ha
   exact hE
  refine RL.gno rfl rfl (bool_eq hb94) rfl dC ?_
  refine RL.gno rfl rfl (bool_eq hb94) rfl dC ?_
  refine RL.gno rfl rfl (bool_eq hb94) rfl dC ?_
  refine rV (r_pick_f (v := (.bool false)) (bool_eq hb94) rfl) (RL.nil ?_)
  refine wcond_f rfl ?_
  refine wskip ?_
  refine ⟨?_, ?_, ?_⟩
  · exact (by repeat (first | exact G93 | refine Off.st ?_ dC _ | refine Off.via G80 dC ?_ | refine Off.eq hF77 ?_ | refine Off.via G73 dC ?_ | refine Off.eq hF68 ?_))
  · rw [← no_rot LA L R LB _ _ oM]; exact ha
  exact hE
 clear ha hE
 rintro f99 w100 ⟨G101, ha, hE⟩
 refine wset fun F102 hF103 => ?_
 refine wcut (fun fl wl => ∃ M1 : List EC, Off (rg 192 14 []) F102 fl ∧ (Srt key M1 ∧ StE key (L.take (s - a) ++ R.take ((a + c) / 2 - s)) M1) ∧ (Ae post wl b 55 (LA ++ M1 ++ L.drop (s - a) ++ R.drop ((a + c) / 2 - s) ++ LB) n) ∧ (Exc b w wl)) ?_ ?_
 ·have G104 := Off.refl (rg 192 14 []) F102
  refine wsr (mV (v := (iv a)) ((hF103 1).trans ((G101 1 rfl).trans ((hF92 1).trans ((G80 1 rfl).trans ((hF77 1).trans ((G73 1 rfl).trans ((hF68 1).trans (hF0 1)))))))) (mV (v := (iv s)) ((hF103 20).trans ((G101 20 rfl).trans ((hF92 20).trans hs81))) (rV (r_lss (k := .i64) (a := (a : Int)) (b := (s : Int)) rfl rfl) (mV (v := (bd ((a : Int) < (s : Int)))) rfl ?_))))
  rcases bD ((a : Int) < (s : Int)) with ⟨hb105, hb105p⟩ | ⟨hb105, hb105p⟩
  ·refine RL.gval rfl rfl (bool_eq hb105) rfl dC (r_move_as (v := (iv s)) ((hF103 20).trans ((G101 20 rfl).trans ((hF92 20).trans hs81)))) ?_
   refine RL.gval rfl rfl (bool_eq hb105) rfl dC (r_move_as (v := (iv ((a + c) / 2 : Nat))) ((hF103 18).trans ((G101 18 rfl).trans ((hF92 18).trans ((G80 18 rfl).trans ((hF77 18).trans ((G73 18 rfl).trans (hF68 18)))))))) ?_
   refine RL.gval rfl rfl (bool_eq hb105) rfl dC (r_lss (k := .i64) (a := (s : Int)) (b := (((a + c) / 2 : Nat) : Int)) rfl rfl) ?_
   refine rV (r_pick_t (v := (bd ((s : Int) < (((a + c) / 2 : Nat) : Int)))) (bool_eq hb105) rfl) (RL.nil ?_)
   refine wcD (p := (s : Int) < (((a + c) / 2 : Nat) : Int)) rfl (fun hb106 hb106p => ?_) (fun hb106 hb106p => ?_)
   ·refine wregion ?_
    refine mV (v := (.slice (some ⟨b, 0, none⟩) (n) (cap))) ((hF103 0).trans ((G101 0 rfl).trans ((hF92 0).trans ((G80 0 rfl).trans ((hF77 0).trans ((G73 0 rfl).trans ((hF68 0).trans (hF0 0)))))))) (mV (v := (iv a)) ((hF103 1).trans ((G101 1 rfl).trans ((hF92 1).trans ((G80 1 rfl).trans ((hF77 1).trans ((G73 1 rfl).trans ((hF68 1).trans (hF0 1)))))))) (mV (v := (iv s)) ((hF103 20).trans ((G101 20 rfl).trans ((hF92 20).trans hs81))) (mV (v := (iv ((a + c) / 2 : Nat))) ((hF103 18).trans ((G101 18 rfl).trans ((hF92 18).trans ((G80 18 rfl).trans ((hF77 18).trans ((G73 18 rfl).trans (hF68 18))))))) (mV (v := (.func (.func kc) #[] cl.toArray)) ((hF103 4).trans ((G101 4 rfl).trans ((hF92 4).trans ((G80 4 rfl).trans ((hF77 4).trans ((G73 4 rfl).trans ((hF68 4).trans (hF0 4)))))))) ?_))))
    refine RL.call rfl rfl dC (r_call (vl := [(.slice (some ⟨b, 0, none⟩) (n) (cap)), (iv a), (iv s), (iv ((a + c) / 2 : Nat)), (.func (.func kc) #[] cl.toArray)]) ent121 rfl) (ih _ _ _ LA (L.take (s - a)) (R.take ((a + c) / 2 - s)) (L.drop (s - a) ++ R.drop ((a + c) / 2 - s) ++ LB) _ ha oM (by simp; omega) (by simp; omega) (by simp; omega) (by simp; omega) (hsL.take _) (hsR.take _) (fun x hx => hok x ((List.mem_append.1 hx).elim (fun h => List.mem_append.2 (.inl (List.mem_of_mem_take h))) (fun h => List.mem_append.2 (.inr (List.mem_of_mem_take h))))) (hw0.trans hE) oM) ?_
    rintro _ w107 ⟨rfl, ⟨M110, ha108, hs111, ht112⟩, hx109⟩
    replace hE := hE.trans hx109
    replace ha := ha108
    refine RL.nil ?_
    refine ⟨M110, ?_, ?_, ?_, ?_⟩
    · exact (by repeat (first | exact G104 | refine Off.st ?_ dC _ | refine Off.via G101 dC ?_ | refine Off.eq hF92 ?_ | refine Off.via G80 dC ?_ | refine Off.eq hF77 ?_ | refine Off.via G73 dC ?_ | refine Off.eq hF68 ?_))
    · exact ⟨hs111, ht112⟩
    · simpa [List.append_assoc] using ha
    exact hE
   refine wskip ?_
   refine ⟨L.take (s - a) ++ R.take ((a + c) / 2 - s), ?_, ?_, ?_, ?_⟩
   · exact (by repeat (first | exact G104 | refine Off.st ?_ dC _ | refine Off.via G101 dC ?_ | refine Off.eq hF92 ?_ | refine Off.via G80 dC ?_ | refine Off.eq hF77 ?_ | refine Off.via G73 dC ?_ | refine Off.eq hF68 ?_))
   · exact ⟨no_mrg hsL hsR oM, StE.refl _ _⟩
   · simpa [List.append_assoc] using ha
   exact hE
  refine RL.gno rfl rfl (bool_eq hb105) rfl dC ?_
  refine RL.gno rfl rfl (bool_eq hb105) rfl dC ?_
  refine RL.gno rfl rfl (bool_eq hb105) rfl dC ?_
  refine rV (r_pick_f (v := (.bool false)) (bool_eq hb105) rfl) (RL.nil ?_)
  refine wcond_f rfl ?_
  refine wskip ?_
  refine ⟨L.take (s - a) ++ R.take ((a + c) / 2 - s), ?_, ?_, ?_, ?_⟩
  · exact (by repeat (first | exact G104 | refine Off.st ?_ dC _ | refine Off.via G101 dC ?_ | refine Off.eq hF92 ?_ | refine Off.via G80 dC ?_ | refine Off.eq hF77 ?_ | refine Off.via G73 dC ?_ | refine Off.eq hF68 ?_))
  · exact ⟨no_mrg hsL hsR oM, StE.refl _ _⟩
  · simpa [List.append_assoc] using ha
  exact hE
 clear ha hE
 rintro f113 w114 ⟨M1, G115, hM1, ha, hE⟩
 have hM1l : M1.length = (s - a) + ((a + c) / 2 - s) := by have := hM1.2.length; simp at this; omega
 refine wsr (mV (v := (iv ((a + c) / 2 : Nat))) ((G115 18 rfl).trans ((hF103 18).trans ((G101 18 rfl).trans ((hF92 18).trans ((G80 18 rfl).trans ((hF77 18).trans ((G73 18 rfl).trans (hF68 18)))))))) (mV (v := (iv ((a + c) / 2 + m - s : Nat))) ((G115 24 rfl).trans ((hF103 24).trans ((G101 24 rfl).trans (hF92 24)))) (rV (r_lss (k := .i64) (a := (((a + c) / 2 : Nat) : Int)) (b := (((a + c) / 2 + m - s : Nat) : Int)) rfl rfl) (mV (v := (bd ((((a + c) / 2 : Nat) : Int) < (((a + c) / 2 + m - s : Nat) : Int)))) rfl ?_))))
 rcases bD ((((a + c) / 2 : Nat) : Int) < (((a + c) / 2 + m - s : Nat) : Int)) with ⟨hb116, hb116p⟩ | ⟨hb116, hb116p⟩
 ·refine RL.gval rfl rfl (bool_eq hb116) rfl dC (r_move_as (v := (iv ((a + c) / 2 + m - s : Nat))) ((G115 24 rfl).trans ((hF103 24).trans ((G101 24 rfl).trans (hF92 24))))) ?_
  refine RL.gval rfl rfl (bool_eq hb116) rfl dC (r_move_as (v := (iv c)) ((G115 3 rfl).trans ((hF103 3).trans ((G101 3 rfl).trans ((hF92 3).trans ((G80 3 rfl).trans ((hF77 3).trans ((G73 3 rfl).trans ((hF68 3).trans (hF0 3)))))))))) ?_
  refine RL.gval rfl rfl (bool_eq hb116) rfl dC (r_lss (k := .i64) (a := (((a + c) / 2 + m - s : Nat) : Int)) (b := (c : Int)) rfl rfl) ?_
  refine rV (r_pick_t (v := (bd ((((a + c) / 2 + m - s : Nat) : Int) < (c : Int)))) (bool_eq hb116) rfl) (RL.nil ?_)
  refine wcD (p := (((a + c) / 2 + m - s : Nat) : Int) < (c : Int)) rfl (fun hb117 hb117p => ?_) (fun hb117 hb117p => ?_)
  ·refine wregion ?_
   refine mV (v := (.slice (some ⟨b, 0, none⟩) (n) (cap))) ((G115 0 rfl).trans ((hF103 0).trans ((G101 0 rfl).trans ((hF92 0).trans ((G80 0 rfl).trans ((hF77 0).trans ((G73 0 rfl).trans ((hF68 0).trans (hF0 0))))))))) (mV (v := (iv ((a + c) / 2 : Nat))) ((G115 18 rfl).trans ((hF103 18).trans ((G101 18 rfl).trans ((hF92 18).trans ((G80 18 rfl).trans ((hF77 18).trans ((G73 18 rfl).trans (hF68 18)))))))) (mV (v := (iv ((a + c) / 2 + m - s : Nat))) ((G115 24 rfl).trans ((hF103 24).trans ((G101 24 rfl).trans (hF92 24)))) (mV (v := (iv c)) ((G115 3 rfl).trans ((hF103 3).trans ((G101 3 rfl).trans ((hF92 3).trans ((G80 3 rfl).trans ((hF77 3).trans ((G73 3 rfl).trans ((hF68 3).trans (hF0 3))))))))) (mV (v := (.func (.func kc) #[] cl.toArray)) ((G115 4 rfl).trans ((hF103 4).trans ((G101 4 rfl).trans ((hF92 4).trans ((G80 4 rfl).trans ((hF77 4).trans ((G73 4 rfl).trans ((hF68 4).trans (hF0 4))))))))) ?_))))
   refine RL.call rfl rfl dC (r_call (vl := [(.slice (some ⟨b, 0, none⟩) (n) (cap)), (iv ((a + c) / 2 : Nat)), (iv ((a + c) / 2 + m - s : Nat)), (iv c), (.func (.func kc) #[] cl.toArray)]) ent121 rfl) (ih _ _ _ (LA ++ M1) (L.drop (s - a)) (R.drop ((a + c) / 2 - s)) LB _ ha (by simp; omega) (by simp; omega) (by simp; omega) (by simp; omega) (by simp; omega) (hsL.drop _) (hsR.drop _) (fun x hx => hok x ((List.mem_append.1 hx).elim (fun h => List.mem_append.2 (.inl (List.mem_of_mem_drop h))) (fun h => List.mem_append.2 (.inr (List.mem_of_mem_drop h))))) (hw0.trans hE) oM) ?_
   rintro _ w118 ⟨rfl, ⟨M121, ha119, hs122, ht123⟩, hx120⟩
   replace hE := hE.trans hx120
   replace ha := ha119
   refine RL.nil ?_
   refine ⟨[], trivial, ?_⟩
   obtain ⟨q1, q2⟩ := sym_parts (u := (s - a)) (v := ((a + c) / 2 - s)) (M1 := M1) (M2 := M121) hsL hsR oM oM (by rcases hlo2 with h | h; exact oM; exact .inr (.inr (by rw [show s - a - 1 = s - 1 - a by omega]; exact h))) (by rcases hhi2 with h | h; exact oM; exact .inr (.inr (by rw [show s = r by omega, show (a + c) / 2 - r - 1 = (a + c) / 2 - 1 - r by omega]; exact h))) hM1.1 hM1.2 hs122 ht123
   exact ⟨rfl, ⟨M1 ++ M121, by simpa [List.append_assoc] using ha, q1, q2⟩, hE⟩
  refine wskip ?_
  refine ⟨[], trivial, ?_⟩
  obtain ⟨q1, q2⟩ := sym_parts (u := (s - a)) (v := ((a + c) / 2 - s)) (M1 := M1) (M2 := (L.drop (s - a) ++ R.drop ((a + c) / 2 - s))) hsL hsR oM oM (by rcases hlo2 with h | h; exact oM; exact .inr (.inr (by rw [show s - a - 1 = s - 1 - a by omega]; exact h))) (by rcases hhi2 with h | h; exact oM; exact .inr (.inr (by rw [show s = r by omega, show (a + c) / 2 - r - 1 = (a + c) / 2 - 1 - r by omega]; exact h))) hM1.1 hM1.2 (no_mrg' hsL hsR oM) (StE.refl _ _)
  exact ⟨rfl, ⟨M1 ++ (L.drop (s - a) ++ R.drop ((a + c) / 2 - s)), by simpa [List.append_assoc] using ha, q1, q2⟩, hE⟩
 refine RL.gno rfl rfl (bool_eq hb116) rfl dC ?_
 refine RL.gno rfl rfl (bool_eq hb116) rfl dC ?_
 refine RL.gno rfl rfl (bool_eq hb116) rfl dC ?_
 refine rV (r_pick_f (v := (.bool false)) (bool_eq hb116) rfl) (RL.nil ?_)
 refine wcond_f rfl ?_
 refine wskip ?_
 refine ⟨[], trivial, ?_⟩
 obtain ⟨q1, q2⟩ := sym_parts (u := (s - a)) (v := ((a + c) / 2 - s)) (M1 := M1) (M2 := (L.drop (s - a) ++ R.drop ((a + c) / 2 - s))) hsL hsR oM oM (by rcases hlo2 with h | h; exact oM; exact .inr (.inr (by rw [show s - a - 1 = s - 1 - a by omega]; exact h))) (by rcases hhi2 with h | h; exact oM; exact .inr (.inr (by rw [show s = r by omega, show (a + c) / 2 - r - 1 = (a + c) / 2 - 1 - r by omega]; exact h))) hM1.1 hM1.2 (no_mrg' hsL hsR oM) (StE.refl _ _)
 exact ⟨rfl, ⟨M1 ++ (L.drop (s - a) ++ R.drop ((a + c) / 2 - s)), by simpa [List.append_assoc] using ha, q1, q2⟩, hE⟩
theorem symMerge_all {post : List Value} {kc : Nat} {cl : List Value} {key : EC → Int} {ok : EC → Prop} {b n cap : Nat} {w0 : World} (hent : Ent Tryz.prog kc) (hcmp : CmpOk Tryz.prog kc cl encE key ok b w0) (hsz : n ≤ 4611686018427387903) (N : Nat) : SymOk post kc cl key ok b n cap w0 N := by
  induction N with
  | zero => intro a m c LA L R LB w ha h1 h2 h3 h4 h5 _ _ _ _ hN; omega
  | succ N ih => intro a m c LA L R LB w ha h1 h2 h3 h4 h5 hsL hsR hok hw0 hN; exact symMerge_step hent hcmp hw0 ih ha hsz h1 h2 h3 h4 h5 hsL hsR hok hN
end Go.Proofs.YtelbjmhhbeijkaaGreat
namespace Go.Proofs.YtelbjmhhbeijkaaGreat
open Go.Vg Go.RowKit _root_.Go.Proofs.Tryz
set_option linter.unusedVariables false
open Go.Vm
set_option maxHeartbeats 1000000 in
theorem stable_ent {post : List Value} {b n cap : Nat} {xs : List EC} {w : World} {kc : Nat} {cl : List Value} {key : EC → Int} {ok : EC → Prop} {w0 : World} (hent : Ent Tryz.prog kc) (hcmp : CmpOk Tryz.prog kc cl encE key ok b w0) (hw0 : Exc b w0 w) (ha : Ae post w b 55 xs n) (hsz : n ≤ 4611686018427387903) (hok : ∀ x ∈ xs, ok x) :
    Calls Tryz.prog 99 #[(.slice (some ⟨b, 0, none⟩) (n) (cap)), (iv n), (.func (.func kc) #[] cl.toArray)] w fun e w' => ∃ v, e = .returned v ∧ v = .tuple #[] ∧ (∃ l, Ae post w' b 55 l n ∧ Srt key l ∧ StE key xs l) ∧ Exc b w w' := by
 have hE : Exc b w w := Exc.of_ext (Ext.refl _)
 have hn : xs.length = n := ha.len
 refine calls_of (n := 63) (rs := []) func99 rfl rfl rfl bL ?_
 refine wset fun F0 hF0 => ?_
 refine wsr (aS (v := (iv 20)) rfl (RL.nil (wsr (mV (v := (iv 20)) rfl (aS (v := (iv 0)) rfl (aS (v := (iv 20)) rfl (RL.nil (wseq ?_))))))))
 refine wblock ?_
 refine wset fun F1 hF2 => ?_
 refine wloop (σ := Nat × List EC) (fun (s : Nat × List EC) fl wl => match s with | (e, D) => Off (rg 7 2 (rg 11 12 [])) F1 fl ∧ fl 7 = (iv e) ∧ fl 8 = (iv (e + 20 : Nat)) ∧ (D.length = e) ∧ (∃ k, e = k * 20) ∧ (e ≤ n) ∧ (StE key (xs.take e) D) ∧ (Blk key 20 D) ∧ (Ae post wl b 55 (D ++ xs.drop e) n) ∧ (Exc b w wl)) (fun (s : Nat × List EC) => match s with | (e, D) => n - e) (0, []) ?_ ?_
 ·exact ⟨Off.refl _ _, (hF2 7).trans (rfl), (hF2 8).trans (rfl), rfl, ⟨0, rfl⟩, Nat.zero_le _, (by simp; exact StE.refl _ _), Blk.nil _ _, (by simpa using ha), hE⟩
 clear ha hE
 rintro ⟨e, D⟩ f3 w4 ⟨G5, hs6, hs7, hDl, hd, hen, hDs, hDb, ha, hE⟩
 refine wseq (wsr (mV hs7 (mV (v := (iv n)) ((G5 1 rfl).trans ((hF2 1).trans (hF0 1))) (rV (r_leq (k := .i64) (a := ((e + 20 : Nat) : Int)) (b := (n : Int)) rfl rfl) (RL.nil ?_)))))
 refine wcD (p := ((e + 20 : Nat) : Int) ≤ (n : Int)) rfl (fun hb8 hb8p => ?_) (fun hb8 hb8p => ?_)
 ·refine wskip ?_
  refine wblock ?_
  refine wsr (mV (v := (.slice (some ⟨b, 0, none⟩) (n) (cap))) ((G5 0 rfl).trans ((hF2 0).trans (hF0 0))) (mV hs6 (mV hs7 (mV (v := (.func (.func kc) #[] cl.toArray)) ((G5 2 rfl).trans ((hF2 2).trans (hF0 2))) ?_))))
  refine RL.call rfl rfl dC (r_call (vl := [(.slice (some ⟨b, 0, none⟩) (n) (cap)), (iv e), (iv (e + 20 : Nat)), (.func (.func kc) #[] cl.toArray)]) ent71 rfl) (insertion_ent (LA := D) (LS := (xs.drop e).take 20) (LB := xs.drop (e + 20)) hent hcmp (hw0.trans hE) ha hsz (seg_split _ _ _ _) oM (by simp; omega) (fun x hx => hok x (List.mem_of_mem_drop (List.mem_of_mem_take hx)))) ?_
  rintro _ w9 ⟨rfl, ⟨M12, ha10, hs13, ht14⟩, hx11⟩
  replace hE := hE.trans hx11
  replace ha := ha10
  refine RL.nil (wsr (mV hs7 (aS (v := (iv (e + 20 : Nat))) rfl (RL.nil (wregion (mV hs7 (mV (v := (iv 20)) ((G5 6 rfl).trans (hF2 6)) (rV (r_add (k := .i64) (a := ((e + 20 : Nat) : Int)) (b := 20) (c := ((e + 20 + 20 : Nat) : Int)) rfl rfl ((wi64 oM).trans oM)) (aS (v := (iv (e + 20 + 20 : Nat))) rfl (RL.nil ?_))))))))))
  refine ⟨(e + 20, D ++ M12), ⟨?_, ?_, ?_, ?_, ?_, ?_, ?_, ?_, ?_, ?_⟩, ?_⟩
  · exact (by repeat (first | exact G5 | refine Off.st ?_ dC _))
  · first | rfl | exact int_eq oM | exact bool_eq (by simp)
  · first | rfl | exact int_eq oM | exact bool_eq (by simp)
  · have := ht14.length; simp at *; omega
  · exact next_mul hd
  · omega
  · rw [take_seg]; exact StE.append hDs ht14
  · exact hDb.snoc (by rw [hDl]; exact hd) hs13 (by have := ht14.length; simp at this; omega)
  · exact ha
  · exact hE
  (try dsimp only)
  omega
 refine wexit ?_
 refine wsr (mV (v := (.slice (some ⟨b, 0, none⟩) (n) (cap))) ((G5 0 rfl).trans ((hF2 0).trans (hF0 0))) (mV hs6 (mV (v := (iv n)) ((G5 1 rfl).trans ((hF2 1).trans (hF0 1))) (mV (v := (.func (.func kc) #[] cl.toArray)) ((G5 2 rfl).trans ((hF2 2).trans (hF0 2))) ?_))))
 refine RL.call rfl rfl dC (r_call (vl := [(.slice (some ⟨b, 0, none⟩) (n) (cap)), (iv e), (iv n), (.func (.func kc) #[] cl.toArray)]) ent71 rfl) (insertion_ent (LA := D) (LS := xs.drop e) (LB := []) hent hcmp (hw0.trans hE) ha hsz (by simp) oM (by simp; omega) (fun x hx => hok x (List.mem_of_mem_drop hx))) ?_
 rintro _ w15 ⟨rfl, ⟨M18, ha16, hs19, ht20⟩, hx17⟩
 replace hE := hE.trans hx17
 replace ha := ha16
 refine RL.nil ?_
 refine wblock ?_
 refine wset fun F21 hF22 => ?_
 refine wloop (σ := Nat × List EC) (fun (s : Nat × List EC) fl wl => match s with | (z, l) => Off (rg 6 4 (rg 28 35 [])) F21 fl ∧ fl 6 = (iv z) ∧ (0 < z) ∧ (StE key xs l) ∧ (Blk key z l) ∧ (Ae post wl b 55 l n) ∧ (Exc b w wl)) (fun (s : Nat × List EC) => match s with | (z, l) => n - z) (20, D ++ M18) ?_ ?_
 ·exact ⟨Off.refl _ _, (hF22 6).trans ((((G5 6 rfl).trans (hF2 6))).trans rfl), by decide, (by have e1 := StE.append hDs ht20; rw [List.take_append_drop] at e1; exact e1), (hDb.snoc (by rw [hDl]; exact hd) hs19 (by have := ht20.length; simp at this; omega)), (by simpa using ha), hE⟩
 clear ha hE
 rintro ⟨z, l⟩ f23 w24 ⟨G25, hs26, hz, hls, hlb, ha, hE⟩
 have hll : l.length = n := by have := hls.length; omega
 have hokl : ∀ x ∈ l, ok x := fun x hx => hok x (hls.symm.mem hx)
 refine wseq (wsr (mV hs26 (mV (v := (iv n)) ((G25 1 rfl).trans ((hF22 1).trans ((G5 1 rfl).trans ((hF2 1).trans (hF0 1))))) (rV (r_lss (k := .i64) (a := (z : Int)) (b := (n : Int)) rfl rfl) (RL.nil ?_)))))
 refine wcD (p := (z : Int) < (n : Int)) rfl (fun hb27 hb27p => ?_) (fun hb27 hb27p => ?_)
 ·refine wskip ?_
  refine wblock ?_
  refine wsr (mV hs26 (rV (r_mul (k := .i64) (a := 2) (b := (z : Int)) (c := ((2 * z : Nat) : Int)) rfl rfl ((wi64 oM).trans oM)) (aS (v := (iv 0)) rfl (aS (v := (iv (2 * z : Nat))) rfl (RL.nil (wseq ?_))))))
  refine wblock ?_
  refine wset fun F28 hF29 => ?_
  refine wloop (σ := Nat × List EC) (fun (s : Nat × List EC) fl wl => match s with | (e, D) => Off (rg 7 2 (rg 33 16 [])) F28 fl ∧ fl 7 = (iv e) ∧ fl 8 = (iv (e + 2 * z : Nat)) ∧ (D.length = e) ∧ (∃ k, e = k * (2 * z)) ∧ (e ≤ n) ∧ (StE key (l.take e) D) ∧ (Blk key (2 * z) D) ∧ (Ae post wl b 55 (D ++ l.drop e) n) ∧ (Exc b w wl)) (fun (s : Nat × List EC) => match s with | (e, D) => n - e) (0, []) ?_ ?_
  ·exact ⟨Off.refl _ _, (hF29 7).trans (rfl), (hF29 8).trans ((int_eq oM)), rfl, ⟨0, by simp⟩, Nat.zero_le _, (by simp; exact StE.refl _ _), Blk.nil _ _, (by simpa using ha), hE⟩
  clear ha hE
  rintro ⟨e, D⟩ f30 w31 ⟨G32, hs33, hs34, hDl, hd, hen, hDs, hDb, ha, hE⟩
  refine wseq (wsr (mV hs34 (mV (v := (iv n)) ((G32 1 rfl).trans ((hF29 1).trans ((G25 1 rfl).trans ((hF22 1).trans ((G5 1 rfl).trans ((hF2 1).trans (hF0 1))))))) (rV (r_leq (k := .i64) (a := ((e + 2 * z : Nat) : Int)) (b := (n : Int)) rfl rfl) (RL.nil ?_)))))
  refine wcD (p := ((e + 2 * z : Nat) : Int) ≤ (n : Int)) rfl (fun hb35 hb35p => ?_) (fun hb35 hb35p => ?_)
  ·refine wskip ?_
   refine wblock ?_
   refine wsr (mV (v := (.slice (some ⟨b, 0, none⟩) (n) (cap))) ((G32 0 rfl).trans ((hF29 0).trans ((G25 0 rfl).trans ((hF22 0).trans ((G5 0 rfl).trans ((hF2 0).trans (hF0 0))))))) (mV hs33 (mV hs33 (mV (v := (iv z)) ((G32 6 rfl).trans ((hF29 6).trans hs26)) (rV (r_add (k := .i64) (a := (e : Int)) (b := (z : Int)) (c := ((e + z : Nat) : Int)) rfl rfl ((wi64 oM).trans oM)) (mV hs34 (mV (v := (.func (.func kc) #[] cl.toArray)) ((G32 2 rfl).trans ((hF29 2).trans ((G25 2 rfl).trans ((hF22 2).trans ((G5 2 rfl).trans ((hF2 2).trans (hF0 2))))))) ?_)))))))
   refine RL.call rfl rfl dC (r_call (vl := [(.slice (some ⟨b, 0, none⟩) (n) (cap)), (iv e), (iv (e + z : Nat)), (iv (e + 2 * z : Nat)), (.func (.func kc) #[] cl.toArray)]) ent121 rfl) (symMerge_all hent hcmp hsz _ _ _ _ D ((l.drop e).take z) ((l.drop (e + z)).take z) (l.drop (e + 2 * z)) _ (seg_split2 D l e z ▸ ha) oM (by simp; omega) (by simp; omega) (by simp; omega) (by simp; omega) (hlb.at (twice hd)) (hlb.at (next_mul (twice hd))) (fun x hx => hokl x ((List.mem_append.1 hx).elim (fun h => List.mem_of_mem_drop (List.mem_of_mem_take h)) (fun h => List.mem_of_mem_drop (List.mem_of_mem_take h)))) (hw0.trans hE) (Nat.le_refl _)) ?_
   rintro _ w36 ⟨rfl, ⟨M39, ha37, hs40, ht41⟩, hx38⟩
   replace hE := hE.trans hx38
   replace ha := ha37
   refine RL.nil (wsr (mV hs34 (aS (v := (iv (e + 2 * z : Nat))) rfl (RL.nil (wregion (mV hs34 (mV (v := (iv z)) ((G32 6 rfl).trans ((hF29 6).trans hs26)) (rV (r_mul (k := .i64) (a := 2) (b := (z : Int)) (c := ((2 * z : Nat) : Int)) rfl rfl ((wi64 oM).trans oM)) (rV (r_add (k := .i64) (a := ((e + 2 * z : Nat) : Int)) (b := ((2 * z : Nat) : Int)) (c := ((e + 2 * z + 2 * z : Nat) : Int)) rfl rfl ((wi64 oM).trans oM)) (aS (v := (iv (e + 2 * z + 2 * z : Nat))) rfl (RL.nil ?_)))))))))))
   refine ⟨(e + 2 * z, D ++ M39), ⟨?_, ?_, ?_, ?_, ?_, ?_, ?_, ?_, ?_, ?_⟩, ?_⟩
   · exact (by repeat (first | exact G32 | refine Off.st ?_ dC _ | refine Off.via G25 dC ?_ | refine Off.eq hF22 ?_ | refine Off.via G5 dC ?_ | refine Off.eq hF2 ?_))
   · first | rfl | exact int_eq oM | exact bool_eq (by simp)
   · first | rfl | exact int_eq oM | exact bool_eq (by simp)
   · have := ht41.length; simp at *; omega
   · exact next_mul hd
   · omega
   · rw [show e + 2 * z = e + z + z by omega, take_seg, take_seg, List.append_assoc]; exact StE.append hDs ht41
   · exact hDb.snoc (by rw [hDl]; exact hd) hs40 (by have := ht41.length; simp at this; omega)
   · exact ha
   · exact hE
   (try dsimp only)
   omega
  refine wexit ?_
  refine wset fun F42 hF43 => ?_
  refine wcut (fun fl wl => ∃ l2 : List EC, Off (9 :: (rg 49 12 [])) F42 fl ∧ (StE key l l2 ∧ Blk key (2 * z) l2) ∧ (Ae post wl b 55 l2 n) ∧ (Exc b w wl)) ?_ ?_
  ·have G44 := Off.refl (9 :: (rg 49 12 [])) F42
   refine wsr (mV (v := (iv e)) ((hF43 7).trans hs33) (mV (v := (iv z)) ((hF43 6).trans ((G32 6 rfl).trans ((hF29 6).trans hs26))) (rV (r_add (k := .i64) (a := (e : Int)) (b := (z : Int)) (c := ((e + z : Nat) : Int)) rfl rfl ((wi64 oM).trans oM)) (aS (v := (iv (e + z : Nat))) rfl (RL.nil (wsr (mV (v := (iv (e + z : Nat))) rfl (mV (v := (iv n)) ((hF43 1).trans ((G32 1 rfl).trans ((hF29 1).trans ((G25 1 rfl).trans ((hF22 1).trans ((G5 1 rfl).trans ((hF2 1).trans (hF0 1)))))))) (rV (r_lss (k := .i64) (a := ((e + z : Nat) : Int)) (b := (n : Int)) rfl rfl) (RL.nil ?_))))))))))
   refine wcD (p := ((e + z : Nat) : Int) < (n : Int)) rfl (fun hb45 hb45p => ?_) (fun hb45 hb45p => ?_)
   ·refine wregion ?_
    refine mV (v := (.slice (some ⟨b, 0, none⟩) (n) (cap))) ((hF43 0).trans ((G32 0 rfl).trans ((hF29 0).trans ((G25 0 rfl).trans ((hF22 0).trans ((G5 0 rfl).trans ((hF2 0).trans (hF0 0)))))))) (mV (v := (iv e)) ((hF43 7).trans hs33) (mV (v := (iv (e + z : Nat))) rfl (mV (v := (iv n)) ((hF43 1).trans ((G32 1 rfl).trans ((hF29 1).trans ((G25 1 rfl).trans ((hF22 1).trans ((G5 1 rfl).trans ((hF2 1).trans (hF0 1)))))))) (mV (v := (.func (.func kc) #[] cl.toArray)) ((hF43 2).trans ((G32 2 rfl).trans ((hF29 2).trans ((G25 2 rfl).trans ((hF22 2).trans ((G5 2 rfl).trans ((hF2 2).trans (hF0 2)))))))) ?_))))
    refine RL.call rfl rfl dC (r_call (vl := [(.slice (some ⟨b, 0, none⟩) (n) (cap)), (iv e), (iv (e + z : Nat)), (iv n), (.func (.func kc) #[] cl.toArray)]) ent121 rfl) (symMerge_all hent hcmp hsz _ _ _ _ D ((l.drop e).take z) (l.drop (e + z)) ([]) _ ((show D ++ l.drop e = D ++ (l.drop e).take z ++ l.drop (e + z) ++ [] by rw [List.append_nil]; exact seg_split _ _ _ _) ▸ ha) oM (by simp; omega) (by simp; omega) (by simp; omega) (by simp; omega) (hlb.at (twice hd)) (hlb.rest (next_mul (twice hd)) oM) (fun x hx => hokl x ((List.mem_append.1 hx).elim (fun h => List.mem_of_mem_drop (List.mem_of_mem_take h)) (fun h => List.mem_of_mem_drop ( h)))) (hw0.trans hE) (Nat.le_refl _)) ?_
    rintro _ w46 ⟨rfl, ⟨M49, ha47, hs50, ht51⟩, hx48⟩
    replace hE := hE.trans hx48
    replace ha := ha47
    refine RL.nil ?_
    refine ⟨D ++ M49, ?_, ?_, ?_, ?_⟩
    · exact (by repeat (first | exact G44 | refine Off.st ?_ dC _ | refine Off.via G32 dC ?_ | refine Off.eq hF29 ?_ | refine Off.via G25 dC ?_ | refine Off.eq hF22 ?_ | refine Off.via G5 dC ?_ | refine Off.eq hF2 ?_))
    · refine ⟨?_, hDb.snoc (by rw [hDl]; exact hd) hs50 (by have := ht51.length; simp at this; omega)⟩
      have e1 : l = l.take e ++ ((l.drop e).take z ++ l.drop (e + z)) := by rw [← List.drop_drop, List.take_append_drop, List.take_append_drop]
      rw [e1]; exact StE.append hDs ht51
    · simpa using ha
    exact hE
   refine wskip ?_
   refine ⟨D ++ l.drop e, ?_, ?_, ?_, ?_⟩
   · exact (by repeat (first | exact G44 | refine Off.st ?_ dC _ | refine Off.via G32 dC ?_ | refine Off.eq hF29 ?_ | refine Off.via G25 dC ?_ | refine Off.eq hF22 ?_ | refine Off.via G5 dC ?_ | refine Off.eq hF2 ?_))
   · refine ⟨?_, hDb.snoc (by rw [hDl]; exact hd) (hlb.rest (twice hd) oM) (by simp; omega)⟩
     have e1 := StE.append hDs (StE.refl key (l.drop e))
     rw [List.take_append_drop] at e1; exact e1
   · simpa using ha
   exact hE
  clear ha hE
  rintro f52 w53 ⟨l2, G54, hl2, ha, hE⟩
  refine wregion (mV (v := (iv z)) ((G54 6 rfl).trans ((hF43 6).trans ((G32 6 rfl).trans ((hF29 6).trans hs26)))) (rV (r_mul (k := .i64) (a := (z : Int)) (b := 2) (c := ((2 * z : Nat) : Int)) rfl rfl ((wi64 oM).trans oM)) (aS (v := (iv (2 * z : Nat))) rfl (RL.nil ?_))))
  refine ⟨(2 * z, l2), ⟨?_, ?_, ?_, ?_, ?_, ?_, ?_⟩, ?_⟩
  · exact (by repeat (first | exact G25 | refine Off.st ?_ dC _ | refine Off.via G54 dC ?_ | refine Off.eq hF43 ?_ | refine Off.via G32 dC ?_ | refine Off.eq hF29 ?_ | refine Off.via G5 dC ?_ | refine Off.eq hF2 ?_))
  · first | rfl | exact int_eq oM | exact bool_eq (by simp)
  · omega
  · exact hls.trans hl2.1
  · exact hl2.2
  · exact ha
  · exact hE
  (try dsimp only)
  omega
 refine wexit ?_
 refine ⟨[], trivial, ?_⟩
 have hl0 := hlb.all oM
 exact ⟨rfl, ⟨l, ha, hl0, hls⟩, hE⟩
set_option maxHeartbeats 1000000 in
theorem sortStable_ent {post : List Value} {b n cap : Nat} {xs : List EC} {w : World} {kc : Nat} {cl : List Value} {key : EC → Int} {ok : EC → Prop} {w0 : World} (hent : Ent Tryz.prog kc) (hcmp : CmpOk Tryz.prog kc cl encE key ok b w0) (hw0 : Exc b w0 w) (ha : Ae post w b 55 xs n) (hsz : n ≤ 4611686018427387903) (hok : ∀ x ∈ xs, ok x) :
    Calls Tryz.prog 66 #[(.slice (some ⟨b, 0, none⟩) (n) (cap)), (.func (.func kc) #[] cl.toArray)] w fun e w' => ∃ v, e = .returned v ∧ v = .tuple #[] ∧ (∃ l, Ae post w' b 55 l n ∧ Srt key l ∧ StE key xs l) ∧ Exc b w w' := by
 have hE : Exc b w w := Exc.of_ext (Ext.refl _)
 refine calls_of (n := 9) (rs := []) func66 rfl rfl rfl bL ?_
 refine wset fun F0 hF0 => ?_
 refine wregion (mV (v := (.slice (some ⟨b, 0, none⟩) (n) (cap))) (hF0 0) (mV (v := (.slice (some ⟨b, 0, none⟩) (n) (cap))) (hF0 0) (rV (r_len uT22 rfl) (mV (v := (.func (.func kc) #[] cl.toArray)) (hF0 1) ?_))))
 refine RL.call rfl rfl dC (r_call (vl := [(.slice (some ⟨b, 0, none⟩) (n) (cap)), (iv n), (.func (.func kc) #[] cl.toArray)]) ent99 rfl) (stable_ent hent hcmp hw0 ha hsz hok) ?_
 rintro _ w1 ⟨rfl, hl, hx⟩
 refine RL.nil ?_
 refine ⟨[], trivial, ?_⟩
 exact ⟨rfl, hl, hx⟩
end Go.Proofs.YtelbjmhhbeijkaaGreat
namespace Go.Vg
open Go Go.RowKit Go.Vm
abbrev Ent' : Type := Int × Rat
abbrev rcOf (x : EC) : RC := (x.2.1, sv x.2.2.1, sv x.2.2.2)
def Ez (L : Nat) (D : Nat → TypeId → Prop) (w : World) (x : EC) (e : Ent') : Prop := x.1 = e.1 ∧ Rz L D w (rcOf x) e.2
def Rk (L : Nat) (D : Nat → TypeId → Prop) (w : World) (c : RC) (q : Rat) : Prop :=
  c.1 = decide (q.num < 0) ∧ Sg (gN .u32) D w c.2.1 (digs q.num.natAbs) ∧ Sg (gN .u32) D w c.2.2 (digs q.den) ∧ (digs q.num.natAbs).length ≤ L ∧ (digs q.den).length ≤ L
def Ek (L : Nat) (D : Nat → TypeId → Prop) (w : World) (x : EC) (e : Ent') : Prop := x.1 = e.1 ∧ Rk L D w (rcOf x) e.2
def Fe (R : EC → Ent' → Prop) (xs : List EC) (es : List Ent') : Prop := xs.length = es.length ∧ ∀ k, k < es.length → R (xs.getD k default) (es.getD k default)
section
variable {L L' : Nat} {D D' : Nat → TypeId → Prop} {w w' : World} {c : RC} {q : Rat} {x : EC} {e : Ent'}
theorem Rk.rz (h : Rk L D w c q) : Rz L D w c q := by
  obtain ⟨h1, h2, h3, h4, h5⟩ := h
  exact ⟨_, _, h2, digs_lm _, h4, h3, digs_lm _, h5, by rw [h1]; exact ratOf_canon q⟩
theorem Rk.tr (h : Rk L D w c q) (hs : Sm D w w') : Rk L D w' c q := ⟨h.1, h.2.1.tr hs, h.2.2.1.tr hs, h.2.2.2⟩
theorem Rk.mono (h : Rk L D w c q) (hD : ∀ b T, D b T → D' b T) : Rk L D' w c q := ⟨h.1, h.2.1.mono hD, h.2.2.1.mono hD, h.2.2.2⟩
theorem Rk.wide (h : Rk L D w c q) (hL : L ≤ L') : Rk L' D w c q := ⟨h.1, h.2.1, h.2.2.1, Nat.le_trans h.2.2.2.1 hL, Nat.le_trans h.2.2.2.2 hL⟩
theorem Rk.apn {b : Nat} (h : Rk L D w c q) (e : Exc b w w') (hb : Nb w b) : Rk L D w' c q := ⟨h.1, h.2.1.apn e hb, h.2.2.1.apn e hb, h.2.2.2⟩
theorem Ek.ez (h : Ek L D w x e) : Ez L D w x e := ⟨h.1, h.2.rz⟩
theorem Ez.wide (h : Ez L D w x e) (hL : L ≤ L') : Ez L' D w x e := ⟨h.1, h.2.wide hL⟩
theorem Ez.tr (h : Ez L D w x e) (hs : Sm D w w') : Ez L D w' x e := ⟨h.1, h.2.tr hs⟩
theorem Ez.mono (h : Ez L D w x e) (hD : ∀ b T, D b T → D' b T) : Ez L D' w x e := ⟨h.1, h.2.mono hD⟩
theorem Ez.apn {b : Nat} (h : Ez L D w x e) (he : Exc b w w') (hb : Nb w b) : Ez L D w' x e := ⟨h.1, h.2.apn he hb⟩
end
section
variable {R R' : EC → Ent' → Prop} {xs : List EC} {es : List Ent'}
theorem Fe.imp (h : Fe R xs es) (hi : ∀ x e, R x e → R' x e) : Fe R' xs es := ⟨h.1, fun k hk => hi _ _ (h.2 k hk)⟩
theorem Fe.nil : Fe R [] [] := ⟨rfl, fun k hk => absurd hk (Nat.not_lt_zero _)⟩
theorem Fe.snoc {x : EC} {e : Ent'} (h : Fe R xs es) (hx : R x e) : Fe R (xs ++ [x]) (es ++ [e]) := by
  refine ⟨by simp [h.1], fun k hk => ?_⟩
  rw [List.length_append, List.length_singleton] at hk
  by_cases hk' : k < es.length
  · rw [show (xs ++ [x]).getD k default = xs.getD k default by simp [List.getElem?_append_left (show k < xs.length by rw [h.1]; exact hk')], show (es ++ [e]).getD k default = es.getD k default by simp [List.getElem?_append_left hk']]
    exact h.2 k hk'
  have e1 : k = es.length := by omega
  subst e1
  rw [show (xs ++ [x]).getD es.length default = x by rw [← h.1]; simp, show (es ++ [e]).getD es.length default = e by simp]
  exact hx
theorem Fe.set {x : EC} {e : Ent'} {k : Nat} (h : Fe R xs es) (hx : R x e) : Fe R (xs.set k x) (es.set k e) := by
  refine ⟨by simp [h.1], fun j hj => ?_⟩
  rw [List.length_set] at hj
  have hj' : j < xs.length := by rw [h.1]; exact hj
  by_cases hjk : k = j
  · subst hjk
    simp [List.getD_eq_getElem?_getD, List.getElem?_set, hj, hj']
    exact hx
  simp only [List.getD_eq_getElem?_getD, List.getElem?_set, if_neg hjk]
  have := h.2 j hj
  simpa only [List.getD_eq_getElem?_getD] using this
theorem getD_drop' {α : Type} [Inhabited α] (l : List α) (m k : Nat) : (l.drop m).getD k default = l.getD (m + k) default := by simp [List.getD_eq_getElem?_getD]
theorem getD_take' {α : Type} [Inhabited α] (l : List α) {m k : Nat} (h : k < m) : (l.take m).getD k default = l.getD k default := by simp [List.getD_eq_getElem?_getD, h]
theorem Fe.drop (h : Fe R xs es) (m : Nat) : Fe R (xs.drop m) (es.drop m) := by
  refine ⟨by simp [h.1], fun k hk => ?_⟩
  rw [List.length_drop] at hk
  rw [getD_drop', getD_drop']
  exact h.2 _ oM
theorem Fe.take (h : Fe R xs es) (m : Nat) : Fe R (xs.take m) (es.take m) := by
  refine ⟨by simp [h.1], fun k hk => ?_⟩
  rw [List.length_take] at hk
  rw [getD_take' _ oM, getD_take' _ oM]
  exact h.2 _ oM
theorem perm_lift {α β : Type} {f : α → β} {ys ys' : List β} (h : ys.Perm ys') : ∀ zs : List α, zs.map f = ys → ∃ zs', zs.Perm zs' ∧ zs'.map f = ys' := by
  induction h with
  | nil => intro zs hz; exact ⟨zs, List.Perm.refl _, hz⟩
  | cons y h ih =>
    intro zs hz
    cases zs with
    | nil => simp at hz
    | cons z zs =>
      simp at hz
      obtain ⟨zs', h1, h2⟩ := ih zs hz.2
      exact ⟨z :: zs', h1.cons z, by simp [hz.1, h2]⟩
  | swap a b l =>
    intro zs hz
    match zs, hz with
    | z1 :: z2 :: zs, hz =>
      simp at hz
      exact ⟨z2 :: z1 :: zs, List.Perm.swap _ _ _, by simp [hz]⟩
  | trans h1 h2 ih1 ih2 =>
    intro zs hz
    obtain ⟨zs1, a1, a2⟩ := ih1 zs hz
    obtain ⟨zs2, b1, b2⟩ := ih2 zs1 a2
    exact ⟨zs2, a1.trans b1, b2⟩
theorem Fe.perm {xs' : List EC} (h : Fe R xs es) (hp : xs.Perm xs') : ∃ es', es.Perm es' ∧ Fe R xs' es' := by
  obtain ⟨zs', h1, h2⟩ := perm_lift (f := Prod.fst) hp (xs.zip es) (List.map_fst_zip (by rw [h.1]; exact Nat.le_refl _))
  refine ⟨zs'.map Prod.snd, ?_, ?_, fun k hk => ?_⟩
  · have := h1.map Prod.snd
    rwa [List.map_snd_zip (by rw [h.1]; exact Nat.le_refl _)] at this
  · rw [← h2]; simp
  have hk' : k < zs'.length := by simpa using hk
  have hm : zs'[k] ∈ xs.zip es := h1.symm.mem_iff.1 (List.getElem_mem hk')
  obtain ⟨j, hj, hje⟩ := List.getElem_of_mem hm
  have hj1 : j < es.length := by rw [List.length_zip] at hj; omega
  have hj2 : j < xs.length := by rw [List.length_zip] at hj; omega
  have := h.2 j hj1
  rw [List.getElem_zip] at hje
  rw [← h2]
  simp only [List.getD_eq_getElem?_getD, List.getElem?_map, List.getElem?_eq_getElem hk', Option.map_some, Option.getD_some]
  rw [← hje]
  simpa only [List.getD_eq_getElem?_getD, List.getElem?_eq_getElem hj1, List.getElem?_eq_getElem hj2, Option.getD_some] using this
end
theorem fe_take (xs : List EC) : ∀ k, ((xs.take k).map entC).flatten = (xs.map entC).flatten.take (k * 4) := by
  induction xs with
  | nil => intro k; simp
  | cons x xs ih =>
    intro k
    cases k with
    | zero => simp
    | succ k => simp only [List.take_succ_cons, List.map_cons, List.flatten_cons, ih, Nat.succ_mul, List.take_append, entC_len, Nat.add_sub_cancel]; simp
theorem fe_drop (xs : List EC) : ∀ k, ((xs.drop k).map entC).flatten = (xs.map entC).flatten.drop (k * 4) := by
  induction xs with
  | nil => intro k; simp
  | cons x xs ih =>
    intro k
    cases k with
    | zero => simp
    | succ k => simp only [List.drop_succ_cons, List.map_cons, List.flatten_cons, ih, Nat.succ_mul, List.drop_append, entC_len, Nat.add_sub_cancel]; simp
theorem se_take {D : Nat → TypeId → Prop} {w : World} {v : Value} {xs : List EC} (h : Ss entC 4 D w v xs) (k : Nat) (hk : k ≤ xs.length) {A : Option Addr} {m c : Nat} (hv : v = .slice A m c) : Ss entC 4 D w (.slice A k c) (xs.take k) := by
  obtain ⟨_, A', c', rfl, h1, h2, h3, h4⟩ := h
  injection hv with e1 e2 e3
  subst e1 e2 e3
  have hl : (xs.take k).length = k := by simp [hk]
  refine ⟨⟨by decide, fun x _ => entC_len x⟩, A', c', by rw [hl], by omega, h2, by rw [flat_len entC_len], ?_⟩
  rw [fe_take]
  rcases h4 with h4 | ⟨bb, o, rfl, hr⟩
  · exact .inl (by rw [h4]; simp)
  exact .inr ⟨bb, o, rfl, hr.take _⟩
theorem se_drop {D : Nat → TypeId → Prop} {w : World} {v : Value} {xs : List EC} (h : Ss entC 4 D w v xs) (k : Nat) (hk : k ≤ xs.length) {A : Option Addr} {m c : Nat} (hv : v = .slice A m c) : Ss entC 4 D w (.slice (if c = k then A else A.map (·.add (k * 4))) (m - k) (c - k)) (xs.drop k) := by
  obtain ⟨_, A', c', rfl, h1, h2, h3, h4⟩ := h
  injection hv with e1 e2 e3
  subst e1 e2 e3
  have hl : (xs.drop k).length = xs.length - k := by simp
  refine ⟨⟨by decide, fun x _ => entC_len x⟩, _, _, by rw [hl], by omega, by omega, by rw [flat_len entC_len], ?_⟩
  by_cases hx : k < xs.length
  · rw [fe_drop]
    rcases h4 with h4 | ⟨bb, o, rfl, hr⟩
    · exact .inl (by rw [h4]; simp)
    rw [if_neg oM]
    refine .inr ⟨bb, o + k * 4, ?_, hr.drop _⟩
    simp [add_spotless]
  exact .inl (by rw [List.drop_of_length_le oM]; rfl)
def Es (L : Nat) (D : Nat → TypeId → Prop) (w : World) (v : Value) (es : List Ent') : Prop := ∃ xs, Ss entC 4 D w v xs ∧ Fe (Ez L D w) xs es
section
variable {L L' : Nat} {D D' : Nat → TypeId → Prop} {w w' : World} {v : Value} {es : List Ent'}
theorem Es.tr (h : Es L D w v es) (hs : Sm D w w') : Es L D w' v es := by
  obtain ⟨xs, h1, h2⟩ := h
  exact ⟨xs, h1.tr hs, h2.imp fun _ _ h => h.tr hs⟩
theorem Es.mono (h : Es L D w v es) (hD : ∀ b T, D b T → D' b T) : Es L D' w v es := by
  obtain ⟨xs, h1, h2⟩ := h
  exact ⟨xs, h1.mono hD, h2.imp fun _ _ h => h.mono hD⟩
theorem Es.wide (h : Es L D w v es) (hL : L ≤ L') : Es L' D w v es := by
  obtain ⟨xs, h1, h2⟩ := h
  exact ⟨xs, h1, h2.imp fun _ _ h => h.wide hL⟩
theorem Es.old (h : Es L D w v es) : Es L (fun b T => D b T ∧ b < w.heap.size) w v es := by
  obtain ⟨xs, h1, h2⟩ := h
  exact ⟨xs, h1.old, h2.imp fun _ _ h => ⟨h.1, h.2.old⟩⟩
theorem Es.nil : Es L D w (.slice none 0 0) [] := ⟨[], Ss.nil dC, Fe.nil⟩
theorem Es.len (h : Es L D w v es) : ∃ A c, v = .slice A es.length c ∧ es.length ≤ c ∧ c ≤ 9223372036854775807 := by
  obtain ⟨xs, h1, h2⟩ := h
  rw [← h2.1]; exact h1.len
theorem Es.one (h : Es L D w v es) : v.oneCell' = true := by obtain ⟨xs, h1, h2⟩ := h; exact h1.one
theorem Es.nu (h : Es L D w v es) : isU v = false := by obtain ⟨xs, h1, h2⟩ := h; exact h1.nu
theorem Es.ix (h : Es L D w v es) {i : Int} (k : Nat) (hi : i = (k : Int)) (hk : k < es.length) :
    ∃ bb o cap s A B x d, v = .slice (some ⟨bb, o, none⟩) es.length cap ∧ (∀ j u, (entC ((es.getD k default).1, s, A, B))[j]? = some u → w.cell? ⟨bb, o + i.toNat * 4 + j, none⟩ = some u) ∧
      Sg (gN .u32) D w (sv A) x ∧ Lm x ∧ x.length ≤ L ∧ Sg (gN .u32) D w (sv B) d ∧ Lm d ∧ d.length ≤ L ∧ ratOf s (val x) (val d) = (es.getD k default).2 := by
  obtain ⟨xs, h1, h2⟩ := h
  obtain ⟨bb, o, cap, hv, hc⟩ := h1.ix k hi (by rw [h2.1]; exact hk)
  obtain ⟨g0, x, d, g⟩ := h2.2 k hk
  refine ⟨bb, o, cap, _, _, _, x, d, by rw [hv, h2.1], ?_, g⟩
  rw [← g0]
  exact hc
theorem Es.take (h : Es L D w v es) (k : Nat) (hk : k ≤ es.length) {A : Option Addr} {m c : Nat} (hv : v = .slice A m c) : Es L D w (.slice A k c) (es.take k) := by
  obtain ⟨xs, h1, h2⟩ := h
  exact ⟨xs.take k, se_take h1 k (by rw [h2.1]; exact hk) hv, h2.take k⟩
theorem Es.drop (h : Es L D w v es) (k : Nat) (hk : k ≤ es.length) {A : Option Addr} {m c : Nat} (hv : v = .slice A m c) : Es L D w (.slice (if c = k then A else A.map (·.add (k * 4))) (m - k) (c - k)) (es.drop k) := by
  obtain ⟨xs, h1, h2⟩ := h
  exact ⟨xs.drop k, se_drop h1 k (by rw [h2.1]; exact hk) hv, h2.drop k⟩
end
end Go.Vg
namespace Go.Vg
open Go Go.RowKit Go.Vm
abbrev DT : Nat → TypeId → Prop := fun _ _ => True
def Fi (R : Nat → EC → Ent' → Prop) (xs : List EC) (es : List Ent') : Prop := xs.length = es.length ∧ ∀ k, k < es.length → R k (xs.getD k default) (es.getD k default)
theorem Fi.imp {R R' : Nat → EC → Ent' → Prop} {xs : List EC} {es : List Ent'} (h : Fi R xs es) (hi : ∀ k x e, k < es.length → R k x e → R' k x e) : Fi R' xs es := ⟨h.1, fun k hk => hi _ _ _ hk (h.2 k hk)⟩
theorem Fe.fi {R : EC → Ent' → Prop} {xs : List EC} {es : List Ent'} (h : Fe R xs es) : Fi (fun _ => R) xs es := h
theorem Fi.set {R : Nat → EC → Ent' → Prop} {xs : List EC} {es : List Ent'} {x : EC} {e : Ent'} {k : Nat} (h : Fi R xs es) (hx : R k x e) : Fi R (xs.set k x) (es.set k e) := by
  refine ⟨by simp [h.1], fun j hj => ?_⟩
  rw [List.length_set] at hj
  have hj' : j < xs.length := by rw [h.1]; exact hj
  by_cases hjk : k = j
  · subst hjk
    simp [List.getD_eq_getElem?_getD, List.getElem?_set, hj, hj']
    exact hx
  simp only [List.getD_eq_getElem?_getD, List.getElem?_set, if_neg hjk]
  have := h.2 j hj
  simpa only [List.getD_eq_getElem?_getD] using this
def Av (L : Nat → Nat) (D : Nat → TypeId → Prop) (w : World) (b : Nat) (T : TypeId) (es : List Ent') (n : Nat) : Prop := ∃ xs post, (Ae post w b T xs n ∧ NoU post) ∧ Fi (fun k => Ez (L k) D w) xs es
section
variable {L L' : Nat → Nat} {D D' : Nat → TypeId → Prop} {w w' : World} {b n : Nat} {T : TypeId} {es : List Ent'}
theorem Av.ext (h : Av L D w b T es n) (e : Ext w w') : Av L D w' b T es n := by
  obtain ⟨xs, p, ⟨h1, hp⟩, h2⟩ := h
  exact ⟨xs, p, ⟨h1.ext e, hp⟩, h2.imp fun _ _ _ _ h => h.tr (Sm.ext e)⟩
theorem Av.apn {b0 : Nat} (h : Av L D w b T es n) (e : Exc b0 w w') (hne : b ≠ b0) (hb : Nb w b0) : Av L D w' b T es n := by
  obtain ⟨xs, p, ⟨h1, hp⟩, h2⟩ := h
  exact ⟨xs, p, ⟨h1.exc e hne, hp⟩, h2.imp fun _ _ _ _ h => h.apn e hb⟩
theorem Av.lt (h : Av L D w b T es n) : b < w.heap.size := by obtain ⟨xs, p, ⟨h1, hp⟩, h2⟩ := h; exact h1.lt
theorem Av.len (h : Av L D w b T es n) : es.length = n := by obtain ⟨xs, p, ⟨h1, hp⟩, h2⟩ := h; rw [← h2.1]; exact h1.len
theorem Av.nb (h : Av L D w b T es n) : Nb w b := by obtain ⟨xs, p, ⟨h1, hp⟩, h2⟩ := h; exact h1.nb hp
theorem Av.sm (h : Av L D w b T es n) (e : Exc b w w') (hD : ¬ D' b T) : Sm D' w w' := by obtain ⟨xs, p, ⟨h1, hp⟩, h2⟩ := h; exact h1.sm e hD
theorem Av.wide (h : Av L D w b T es n) (hL : ∀ k, k < n → L k ≤ L' k) : Av L' D w b T es n := by
  have hl := h.len
  obtain ⟨xs, p, h1, h2⟩ := h
  exact ⟨xs, p, h1, h2.imp fun k _ _ hk h => h.wide (hL k oM)⟩
theorem Av.ix (h : Av L D w b T es n) {i : Int} (k : Nat) (hi : i = (k : Int)) (hk : k < n) :
    ∃ s A B x d, (∀ j u, (entC ((es.getD k default).1, s, A, B))[j]? = some u → w.cell? ⟨b, 0 + i.toNat * 4 + j, none⟩ = some u) ∧ (∀ j u, [Value.bool s, sv A, sv B][j]? = some u → w.cell? ⟨b, 0 + i.toNat * 4 + 1 + j, none⟩ = some u) ∧
      Sg (gN .u32) D w (sv A) x ∧ Lm x ∧ x.length ≤ L k ∧ Sg (gN .u32) D w (sv B) d ∧ Lm d ∧ d.length ≤ L k ∧ ratOf s (val x) (val d) = (es.getD k default).2 := by
  obtain ⟨xs, p, ⟨h1, hp⟩, h2⟩ := h
  have hl := h1.len
  obtain ⟨g0, x, d, g⟩ := h2.2 k (by rw [← h2.1]; omega)
  refine ⟨_, _, _, x, d, ?_, h1.cellr k hi hk, g⟩
  rw [← g0]
  exact h1.cell k hi hk
theorem Av.rd {c L0 : Nat} (h : Av L D w b T es n) (hL : ∀ k, k < n → L k ≤ L0) (hd : D b T) (hc : n ≤ c) (hm : c ≤ 9223372036854775807) : Es L0 D w (.slice (some ⟨b, 0, none⟩) n c) es := by
  have hl := h.len
  obtain ⟨xs, p, ⟨h1, hp⟩, h2⟩ := h
  exact ⟨xs, h1.ss hd hc hm, h2.1, fun k hk => (h2.2 k hk).wide (hL k oM)⟩
end
section
variable {P : Program} {f : Nat → Value} {w : World} {dst : Option Tmp} {ty : TypeId} {pos : String} {aft : Array Edge} {gd : Option (Nat × Bool)} {x y z : Operand} {t e : TypeId} {D D2 : Nat → TypeId → Prop}
theorem Rz.open' {L : Nat} {s : Bool} {vn vd : Value} {q : Rat} (h : Rz L D w (s, vn, vd) q) : ∃ A B : SV, vn = sv A ∧ vd = sv B := by
  obtain ⟨x, d, h1, _, _, h2, _⟩ := h
  obtain ⟨A, c, e1, _⟩ := h1.len
  obtain ⟨B, c2, e2, _⟩ := h2.len
  exact ⟨(A, _, c), (B, _, c2), e1, e2⟩
theorem Av.made {L : Nat → Nat} {b n : Nat} (hb : Bk w b e (List.replicate n [.int .i64 0, .bool false, .slice none 0 0, .slice none 0 0]).flatten) : Av L D w b e (List.replicate n (0, 0)) n := by
  refine ⟨List.replicate n (0, false, (none, 0, 0), (none, 0, 0)), [], ⟨⟨by rw [List.map_replicate, List.append_nil]; exact hb, by simp⟩, fun _ h => by cases h⟩, by simp, fun k hk => ?_⟩
  have hk' : k < n := by simpa using hk
  have e1 : (List.replicate n ((0, false, (none, 0, 0), (none, 0, 0)) : EC)).getD k default = (0, false, (none, 0, 0), (none, 0, 0)) := by simp [List.getD_eq_getElem?_getD, hk']
  have e2 : (List.replicate n ((0, 0) : Ent')).getD k default = (0, 0) := by simp [List.getD_eq_getElem?_getD, hk']
  rw [e1, e2]
  exact ⟨rfl, Rz.zero⟩
theorem h_copyE {L b n cap bytes : Nat} {zz v2 : Value} {es0 es : List Ent'} {t' : TypeId} (hu : P.underlying t = some (.slice e)) (ht : TyI P e 4 bytes zz) (hx : ev f x = .slice (some ⟨b, 0, none⟩) n cap) (hy : ev f y = v2)
    {L1 : Nat → Nat} (ha : Av L1 D w b e es0 n) (hs : Es L D2 w v2 es) (hn : es.length = n) (hD : ∀ b T, D2 b T → D b T) :
    Run P f ⟨dst, .call ⟨.builtin .copy, #[x, y], #[t, t']⟩, ty, pos, aft, gd⟩ w fun v w' => v = .int .i64 (n : Nat) ∧ Av (fun _ => L) D w' b e es n ∧ Exc b w w' := by
  have hnb := ha.nb
  obtain ⟨xs, p, ⟨⟨hb, hl⟩, hp⟩, h2⟩ := ha
  obtain ⟨ys, ⟨_, h3⟩, h4⟩ := hs
  have hyl : ys.length = n := by rw [h4.1]; exact hn
  have hone : ∀ u ∈ (ys.map entC).flatten, u.oneCell' = true := fun u hu => by
    obtain ⟨l, hl, hu⟩ := List.mem_flatten.1 hu
    obtain ⟨z, -, rfl⟩ := List.mem_map.1 hl
    exact one_ent z u hu
  obtain ⟨v, w', hr, h5, h6, h7⟩ := h_copy (P := P) (f := f) (dst := dst) (ty := ty) (pos := pos) (aft := aft) (g := gd) (t' := t') (n := ys.length) (o := 0) hu ht hx hy hb h3 oM rfl hone (by rw [List.length_append, flat_len entC_len, flat_len entC_len]; omega)
  refine ⟨v, w', hr, by rw [h5, hyl], ⟨ys, p, ⟨⟨?_, hyl⟩, hp⟩, (h4.imp fun _ _ h => (h.mono hD).apn h7 hnb).fi⟩, h7⟩
  have e1 : spl ((xs.map entC).flatten ++ p) 0 (ys.map entC).flatten = (ys.map entC).flatten ++ p := by
    unfold spl
    rw [List.take_zero, List.nil_append, Nat.zero_add, List.drop_append, List.drop_of_length_le (by rw [flat_len entC_len, flat_len entC_len]; omega), flat_len entC_len, flat_len entC_len, hyl, hl, Nat.sub_self]
    rfl
  rw [e1] at h6
  exact h6
theorem cdrop {b o : Nat} {l : List Value} (h : ∀ j u, l[j]? = some u → w.cell? ⟨b, o + j, none⟩ = some u) (m : Nat) : ∀ j u, (l.drop m)[j]? = some u → w.cell? ⟨b, o + m + j, none⟩ = some u := fun j u hj => by
  rw [Nat.add_assoc]
  exact h (m + j) u (by rw [← hj, List.getElem?_drop])
theorem h_setV {T : TypeId} {L : Nat → Nat} {b n bytes : Nat} {es : List Ent'} {i0 : Int} {s : Bool} {vn vd : Value} {q : Rat} {i : Int} {zz : Value} (ht : TyI P t 4 bytes zz) (hx : ev f x = .pointer (some ⟨b, 0 + i.toNat * 4, none⟩)) (hy : ev f y = .agg #[.int .i64 i0, .bool s, vn, vd])
    (ha : Av L D w b T es n) (k : Nat) (hz : Rz (L k) D w (s, vn, vd) q) (hi : i = (k : Int)) (hk : k < n) :
    RunS P f ⟨dst, .store t x y, ty, pos, aft, gd⟩ w fun w' => Av L D w' b T (es.set k (i0, q)) n ∧ Exc b w w' := by
  obtain ⟨A, B, rfl, rfl⟩ := hz.open'
  have hnb := ha.nb
  obtain ⟨xs, p, ⟨h1, hp⟩, h2⟩ := ha
  obtain ⟨w', hr, h3, h4⟩ := h_setE (P := P) (f := f) (dst := dst) (ty := ty) (pos := pos) (aft := aft) (gd := gd) (u := (i0, s, A, B)) ht hx hy rfl h1 k hi hk
  exact ⟨w', hr, ⟨_, p, ⟨h3, hp⟩, (h2.imp fun _ _ _ _ h => h.apn h4 hnb).set ⟨rfl, hz.apn h4 hnb⟩⟩, h4⟩
theorem h_setVr {T : TypeId} {L : Nat → Nat} {b n bytes : Nat} {es : List Ent'} {s : Bool} {vn vd : Value} {q : Rat} {i : Int} {zz : Value} (ht : TyI P t 3 bytes zz) (hx : ev f x = .pointer (some ⟨b, 0 + i.toNat * 4 + 1, none⟩)) (hy : ev f y = .agg #[.bool s, vn, vd])
    (ha : Av L D w b T es n) (k : Nat) (hz : Rz (L k) D w (s, vn, vd) q) (hi : i = (k : Int)) (hk : k < n) :
    RunS P f ⟨dst, .store t x y, ty, pos, aft, gd⟩ w fun w' => Av L D w' b T (es.set k ((es.getD k default).1, q)) n ∧ Exc b w w' := by
  obtain ⟨A, B, rfl, rfl⟩ := hz.open'
  have hnb := ha.nb
  obtain ⟨xs, p, ⟨h1, hp⟩, h2⟩ := ha
  have hl := h1.len
  obtain ⟨w', hr, h3, h4⟩ := h_setP (P := P) (f := f) (dst := dst) (ty := ty) (pos := pos) (aft := aft) (gd := gd) (u := ((xs.getD k default).1, s, A, B)) (cs := [.bool s, sv A, sv B]) ht hx hy rfl rfl (one_cons rfl (one_cons rfl (one_cons rfl one_nil))) h1 k hi hk bL rfl
  exact ⟨w', hr, ⟨_, p, ⟨h3, hp⟩, (h2.imp fun _ _ _ _ h => h.apn h4 hnb).set ⟨(h2.2 k (by rw [← h2.1]; omega)).1, hz.apn h4 hnb⟩⟩, h4⟩
end
structure Gro (ob : Option Nat) (w w' : World) : Prop where
  g : w.grownBy w' ob
section
variable {ob : Option Nat} {w0 w w' : World} {b : Nat}
theorem Gro.refl (ob : Option Nat) (w : World) : Gro ob w w := ⟨⟨rfl, rfl, rfl, Nat.le_refl _, fun _ _ _ => rfl⟩⟩
theorem Gro.size (h : Gro ob w w') : w.heap.size ≤ w'.heap.size := h.g.size
theorem Gro.trans {a : World} (h : Gro ob a w) (k : Gro ob w w') : Gro ob a w' :=
  ⟨⟨k.g.os.trans h.g.os, k.g.tape.trans h.g.tape, k.g.output.trans h.g.output, Nat.le_trans h.size k.size, fun i hi hb => (k.g.block i (Nat.lt_of_lt_of_le hi h.size) hb).trans (h.g.block i hi hb)⟩⟩
theorem Gro.nx (h : Gro ob w0 w) (k : Ext w w') : Gro ob w0 w' := h.trans ⟨⟨k.os, k.tape, k.output, k.size, fun i hi _ => k.block i hi⟩⟩
theorem Gro.nb (h : Gro ob w0 w) (k : Exc b w w') (hb : w0.heap.size ≤ b) : Gro ob w0 w' :=
  ⟨⟨k.os.trans h.g.os, k.tape.trans h.g.tape, k.output.trans h.g.output, Nat.le_trans h.size k.size, fun i hi hn => (k.block i (Nat.lt_of_lt_of_le hi h.size) oM).trans (h.g.block i hi hn)⟩⟩
theorem Gro.ge (h : Gro ob w0 w) (hs : b = w.heap.size) : w0.heap.size ≤ b := by rw [hs]; exact h.size
theorem Gro.ext (h : Gro none w w') : Ext w w' := ⟨h.g.os, h.g.tape, h.g.output, h.size, fun i hi => h.g.block i hi (by simp)⟩
theorem Gro.exc (h : Gro (some b) w w') : Exc b w w' := ⟨h.g.os, h.g.tape, h.g.output, h.size, fun i hi hn => h.g.block i hi (by simpa using hn)⟩
theorem Gro.of_ext (h : Ext w w') : Gro ob w w' := (Gro.refl ob w).nx h
theorem Gro.of_exc (h : Exc b w w') : Gro (some b) w w' := ⟨⟨h.os, h.tape, h.output, h.size, fun i hi hn => h.block i hi (by simpa using hn)⟩⟩
theorem Gro.sm {D : Nat → TypeId → Prop} (h : Gro ob w w') (hD : ∀ k T, ob = some k → ¬ D k T) : Sm D w w' := fun b cs T fz hh hd =>
  (h.g.block b (lt_of_heap hh) (fun he => hD b T he.symm hd)).trans hh
theorem Bk.oo {T : TypeId} {l : List Value} {B : Nat} (h : Bk w b T l) (hg : Gro ob w w') (hob : ∀ k, ob = some k → k < B) (ge : B ≤ b) : Bk w' b T l :=
  (hg.g.block b h.lt (fun he => by have := hob b he.symm; omega)).trans h
end
def Oe (L : Nat) (D : Nat → TypeId → Prop) (w : World) (lo : Nat) (T : TypeId) (v : Value) (es : List Ent') : Prop := ∃ xs, Ow w lo T 4 v xs.length (xs.map entC).flatten ∧ Fe (Ek L D w) xs es
section
variable {L L' : Nat} {D D' : Nat → TypeId → Prop} {w w' : World} {lo b : Nat} {T T' : TypeId} {v : Value} {es : List Ent'} {l : List Value} {ob : Option Nat}
theorem Oe.room {c : Nat} (hb : Bk w b T l) (hlo : lo ≤ b) (hn : l.length = c * 4) (hm : c ≤ maxLen) : Oe L D w lo T (.slice (some ⟨b, 0, none⟩) 0 c) [] := ⟨[], Ow.room hb hlo hn hm, Fe.nil⟩
theorem Ek.tr {x : EC} {e : Ent'} (h : Ek L D w x e) (hs : Sm D w w') : Ek L D w' x e := ⟨h.1, h.2.tr hs⟩
theorem Ek.apn {x : EC} {e : Ent'} (h : Ek L D w x e) (he : Exc b w w') (hb : Nb w b) : Ek L D w' x e := ⟨h.1, h.2.apn he hb⟩
theorem Oe.ext (h : Oe L D w lo T v es) (e : Ext w w') : Oe L D w' lo T v es := by
  obtain ⟨xs, h1, h2⟩ := h
  exact ⟨xs, h1.ext e, h2.imp fun _ _ h => h.tr (Sm.ext e)⟩
theorem Oe.exo (h : Oe L D w lo T v es) (e : Exc b w w') (hne : v.ownBlock ≠ some b) (hb : Nb w b) : Oe L D w' lo T v es := by
  obtain ⟨xs, h1, h2⟩ := h
  exact ⟨xs, h1.exo e hne, h2.imp fun _ _ h => h.apn e hb⟩
theorem Oe.oo (h : Oe L D w lo T v es) (hg : Gro ob w w') (hob : ∀ k, ob = some k → k < lo) (hD : ∀ k T, ob = some k → ¬ D k T) : Oe L D w' lo T v es := by
  obtain ⟨xs, h1, h2⟩ := h
  refine ⟨xs, h1.kept (row := ob) hg.g ?_, h2.imp fun _ _ h => h.tr (hg.sm hD)⟩
  rcases h1.2 with ⟨rfl, _⟩ | ⟨b', cap, cur, rfl, hlo, hh', _⟩
  · exact .inl rfl
  right
  intro he
  have := hob b' he.symm
  omega
theorem Oe.lt (h : Oe L D w lo T v es) (b : Nat) (hb : v.ownBlock = some b) : b < w.heap.size := by obtain ⟨xs, h1, h2⟩ := h; exact (World.ownsRow.lt h1 b hb).2
theorem Oe.one (h : Oe L D w lo T v es) : v.oneCell' = true := by obtain ⟨xs, h1, h2⟩ := h; exact h1.one
theorem Oe.len (h : Oe L D w lo T v es) : ∃ A c, v = .slice A es.length c ∧ es.length ≤ c ∧ c ≤ 9223372036854775807 := by obtain ⟨xs, h1, h2⟩ := h; rw [← h2.1]; exact h1.len
theorem Oe.gsm (h : Oe L D w lo T v es) (hg : w.grownBy w' v.ownBlock) (hD : ∀ b, lo ≤ b → ¬ D' b T) : Sm D' w w' := by obtain ⟨xs, h1, h2⟩ := h; exact h1.sm hg hD
theorem Oe.gbk (h : Oe L D w lo T v es) (hg : w.grownBy w' v.ownBlock) (hb : Bk w b T' l) (hne : T' ≠ T) : Bk w' b T' l := by obtain ⟨xs, h1, h2⟩ := h; exact h1.bk hg hb (.inr hne)
theorem Oe.gbo (_h : Oe L D w lo T v es) (hg : w.grownBy w' v.ownBlock) (hb : Bk w b T' l) (hne : v.ownBlock ≠ some b) : Bk w' b T' l := (hg.block b hb.lt (fun he => hne he.symm)).trans hb
theorem Oe.gbe {w0 : World} (h : Oe L D w lo T v es) (hg : w.grownBy w' v.ownBlock) (hE : Gro ob w0 w) (hB : w0.heap.size ≤ lo) (hs : w0.heap.size ≤ w.heap.size) : Gro ob w0 w' := by
  obtain ⟨xs, h1, h2⟩ := h
  have h3 := h1.below hg (Below.refl w0.heap.size w) hB hs
  exact ⟨⟨h3.os.trans hE.g.os, h3.tape.trans hE.g.tape, h3.output.trans hE.g.output, Nat.le_trans hE.size h3.size, fun i hi hn => (h3.block i hi).trans (hE.g.block i hi hn)⟩⟩
theorem Oe.rd (h : Oe L D w lo T v es) (h1 : ∀ b, lo ≤ b → D' b T) (h2 : ∀ b T, D b T → D' b T) : Es L D' w v es := by
  obtain ⟨xs, g1, g2⟩ := h
  exact ⟨xs, g1.ss rfl rfl dC (fun _ _ => rfl) h1, g2.imp fun _ _ h => h.ez.mono h2⟩
end
theorem Es.lo {L B : Nat} {D : Nat → TypeId → Prop} {w : World} {v : Value} {es : List Ent'} (h : Es L (fun b T => D b T ∧ b < B) w v es) (hk : 0 < es.length) {bb o n c : Nat} (hv : v = .slice (some ⟨bb, o, none⟩) n c) : bb < B := by
  obtain ⟨xs, ⟨_, A, cap, h1, h2, h3, h4, h5⟩, h6⟩ := h
  rw [hv] at h1
  injection h1 with e1 e2 e3
  rcases h5 with h5 | ⟨b, o', h7, h8⟩
  · have := congrArg List.length h5
    rw [flat_len entC_len] at this
    have := h6.1
    simp at *
    omega
  rw [h7] at e1
  injection e1 with e1
  injection e1 with e1
  rcases h8 with h8 | ⟨cs, T, fz, _, h9, _⟩
  · have := congrArg List.length h8
    rw [flat_len entC_len] at this
    have := h6.1
    simp at *
    omega
  rw [e1]; exact h9.2
theorem Oe.fr {L lo lo' : Nat} {D D' : Nat → TypeId → Prop} {w : World} {T : TypeId} {v : Value} {es : List Ent'} (h : Oe L D w lo T v es) (hlo : lo' ≤ lo) (hD : ∀ b T, D b T → D' b T) : Oe L D' w lo' T v es := by
  obtain ⟨xs, h1, h2⟩ := h
  exact ⟨xs, h1.mono hlo, h2.imp fun _ _ h => ⟨h.1, h.2.mono hD⟩⟩
def Ap (L : Nat) (D : Nat → TypeId → Prop) (w : World) (b : Nat) (T : TypeId) (es : List Ent') (n : Nat) : Prop := ∃ xs post, Ae post w b T xs n ∧ Fe (Ek L D w) xs es
section
variable {L : Nat} {D D' : Nat → TypeId → Prop} {w w' : World} {lo b n : Nat} {T : TypeId} {v : Value} {es : List Ent'}
theorem Oe.ap (h : Oe L D w lo T v es) (h0 : 0 < es.length) : ∃ b cap, v = .slice (some ⟨b, 0, none⟩) es.length cap ∧ lo ≤ b ∧ es.length ≤ cap ∧ cap ≤ 9223372036854775807 ∧ Ap L D w b T es es.length := by
  obtain ⟨xs, ⟨h1, h3⟩, h2⟩ := h
  rcases h3 with ⟨_, h4⟩ | ⟨b, cap, cur, hv, hlo, hh, hcap, hm, hsz, htk⟩
  · have := h2.1; omega
  refine ⟨b, cap, by rw [hv, h2.1], hlo, by rw [← h2.1]; exact hcap, by simpa [maxLen] using hm, xs, cur.toList.drop (xs.length * 4), ⟨?_, h2.1⟩, h2⟩
  rw [← htk, List.take_append_drop]
  exact hh
theorem Oe.ap2 (h : Oe L D w lo T v es) (h0 : v.ownBlock ≠ none) : ∃ b cap, v = .slice (some ⟨b, 0, none⟩) es.length cap ∧ lo ≤ b ∧ es.length ≤ cap ∧ cap ≤ 9223372036854775807 ∧ Ap L D w b T es es.length := by
  obtain ⟨xs, ⟨h1, h3⟩, h2⟩ := h
  rcases h3 with ⟨h4, _⟩ | ⟨b, cap, cur, hv, hlo, hh, hcap, hm, hsz, htk⟩
  · rw [h4] at h0; exact absurd rfl h0
  refine ⟨b, cap, by rw [hv, h2.1], hlo, by rw [← h2.1]; exact hcap, by simpa [maxLen] using hm, xs, cur.toList.drop (xs.length * 4), ⟨?_, h2.1⟩, h2⟩
  rw [← htk, List.take_append_drop]
  exact hh
theorem Ap.ext (h : Ap L D w b T es n) (e : Ext w w') : Ap L D w' b T es n := by
  obtain ⟨xs, p, h1, h2⟩ := h
  exact ⟨xs, p, h1.ext e, h2.imp fun _ _ h => h.tr (Sm.ext e)⟩
theorem Ap.apn {b0 : Nat} (h : Ap L D w b T es n) (e : Exc b0 w w') (hne : b ≠ b0) (hb : Nb w b0) : Ap L D w' b T es n := by
  obtain ⟨xs, p, h1, h2⟩ := h
  exact ⟨xs, p, h1.exc e hne, h2.imp fun _ _ h => h.apn e hb⟩
theorem Ap.lt (h : Ap L D w b T es n) : b < w.heap.size := by obtain ⟨xs, p, h1, h2⟩ := h; exact h1.lt
theorem Ap.len (h : Ap L D w b T es n) : es.length = n := by obtain ⟨xs, p, h1, h2⟩ := h; rw [← h2.1]; exact h1.len
theorem Ap.sm (h : Ap L D w b T es n) (e : Exc b w w') (hD : ¬ D' b T) : Sm D' w w' := by obtain ⟨xs, p, h1, h2⟩ := h; exact h1.sm e hD
theorem Ap.ix (h : Ap L D w b T es n) {i : Int} (k : Nat) (hi : i = (k : Int)) (hk : k < n) :
    ∃ A B, (∀ j u, (entC ((es.getD k default).1, decide ((es.getD k default).2.num < 0), A, B))[j]? = some u → w.cell? ⟨b, 0 + i.toNat * 4 + j, none⟩ = some u) ∧
      Sg (gN .u32) D w (sv A) (digs (es.getD k default).2.num.natAbs) ∧ Sg (gN .u32) D w (sv B) (digs (es.getD k default).2.den) ∧ (digs (es.getD k default).2.num.natAbs).length ≤ L ∧ (digs (es.getD k default).2.den).length ≤ L := by
  have hl := h.len
  obtain ⟨xs, p, h1, h2⟩ := h
  obtain ⟨g0, g1, g2, g3, g4⟩ := h2.2 k oM
  refine ⟨_, _, ?_, g2, g3, g4⟩
  have hc := h1.cell k hi hk
  have : xs.getD k default = ((es.getD k default).1, decide ((es.getD k default).2.num < 0), (xs.getD k default).2.2.1, (xs.getD k default).2.2.2) := by rw [← g0, ← g1]
  rw [this] at hc
  exact hc
end
def Ec (L : Nat) (D : Nat → TypeId → Prop) (w : World) (v : Value) (es : List Ent') : Prop := ∃ xs, Ss entC 4 D w v xs ∧ Fe (Ek L D w) xs es
section
variable {L L' : Nat} {D D' : Nat → TypeId → Prop} {w w' : World} {lo b : Nat} {T T' : TypeId} {v : Value} {es : List Ent'}
theorem Oe.ec (h : Oe L D w lo T v es) (h1 : ∀ b, lo ≤ b → D' b T) (h2 : ∀ b T, D b T → D' b T) : Ec L D' w v es := by
  obtain ⟨xs, g1, g2⟩ := h
  exact ⟨xs, g1.ss rfl rfl dC (fun _ _ => rfl) h1, g2.imp fun _ _ h => ⟨h.1, h.2.mono h2⟩⟩
theorem Ec.tr (h : Ec L D w v es) (hs : Sm D w w') : Ec L D w' v es := by
  obtain ⟨xs, h1, h2⟩ := h
  exact ⟨xs, h1.tr hs, h2.imp fun _ _ h => ⟨h.1, h.2.tr hs⟩⟩
theorem Ec.mono (h : Ec L D w v es) (hD : ∀ b T, D b T → D' b T) : Ec L D' w v es := by
  obtain ⟨xs, h1, h2⟩ := h
  exact ⟨xs, h1.mono hD, h2.imp fun _ _ h => ⟨h.1, h.2.mono hD⟩⟩
theorem Ec.wide (h : Ec L D w v es) (hL : L ≤ L') : Ec L' D w v es := by
  obtain ⟨xs, h1, h2⟩ := h
  exact ⟨xs, h1, h2.imp fun _ _ h => ⟨h.1, h.2.wide hL⟩⟩
theorem Ec.rd (h : Ec L D w v es) : Es L D w v es := by
  obtain ⟨xs, h1, h2⟩ := h
  exact ⟨xs, h1, h2.imp fun _ _ h => h.ez⟩
theorem Ec.len (h : Ec L D w v es) : ∃ A c, v = .slice A es.length c ∧ es.length ≤ c ∧ c ≤ 9223372036854775807 := h.rd.len
theorem Ec.one (h : Ec L D w v es) : v.oneCell' = true := h.rd.one
theorem Ec.ix (h : Ec L D w v es) {i : Int} (k : Nat) (hi : i = (k : Int)) (hk : k < es.length) :
    ∃ bb o cap A B, v = .slice (some ⟨bb, o, none⟩) es.length cap ∧ (∀ j u, (entC ((es.getD k default).1, decide ((es.getD k default).2.num < 0), A, B))[j]? = some u → w.cell? ⟨bb, o + i.toNat * 4 + j, none⟩ = some u) ∧
      Sg (gN .u32) D w (sv A) (digs (es.getD k default).2.num.natAbs) ∧ Sg (gN .u32) D w (sv B) (digs (es.getD k default).2.den) ∧ (digs (es.getD k default).2.num.natAbs).length ≤ L ∧ (digs (es.getD k default).2.den).length ≤ L := by
  obtain ⟨xs, h1, h2⟩ := h
  obtain ⟨bb, o, cap, hv, hc⟩ := h1.ix k hi (by rw [h2.1]; exact hk)
  obtain ⟨g0, g1, g2, g3, g4⟩ := h2.2 k hk
  refine ⟨bb, o, cap, _, _, by rw [hv, h2.1], ?_, g2, g3, g4⟩
  have : xs.getD k default = ((es.getD k default).1, decide ((es.getD k default).2.num < 0), (xs.getD k default).2.2.1, (xs.getD k default).2.2.2) := by rw [← g0, ← g1]
  rw [this] at hc
  exact hc
end
section
variable {L : Nat} {D D' : Nat → TypeId → Prop} {w w' : World} {b n : Nat} {T : TypeId} {es : List Ent'}
theorem Ap.ec {c : Nat} (h : Ap L D w b T es n) (h1 : D' b T) (h2 : ∀ b T, D b T → D' b T) (hc : n ≤ c) (hm : c ≤ 9223372036854775807) : Ec L D' w (.slice (some ⟨b, 0, none⟩) n c) es := by
  obtain ⟨xs, p, g1, g2⟩ := h
  exact ⟨xs, g1.ss h1 hc hm, g2.imp fun _ _ h => ⟨h.1, h.2.mono h2⟩⟩
end
section
variable {P : Program} {f : Nat → Value} {w : World} {dst : Option Tmp} {ty : TypeId} {pos : String} {aft : Array Edge} {g : Option (Nat × Bool)} {x y z : Operand} {t e : TypeId} {D D2 : Nat → TypeId → Prop}
theorem h_setPi {T : TypeId} {L b n bytes : Nat} {es : List Ent'} {i0 : Int} {i : Int} {zz : Value} (ht : TyI P t 1 bytes zz) (hx : ev f x = .pointer (some ⟨b, 0 + i.toNat * 4, none⟩)) (hy : ev f y = .int .i64 i0)
    (ha : Ap L D w b T es n) (hD : ¬ D b T) (k : Nat) (hi : i = (k : Int)) (hk : k < n) :
    RunS P f ⟨dst, .store t x y, ty, pos, aft, g⟩ w fun w' => Ap L D w' b T (es.set k (i0, (es.getD k default).2)) n ∧ Exc b w w' := by
  have hl := ha.len
  obtain ⟨xs, p, h1, h2⟩ := ha
  obtain ⟨w', hr, h3, h4⟩ := h_setP (P := P) (f := f) (dst := dst) (ty := ty) (pos := pos) (aft := aft) (gd := g) (m := 0) (u := (i0, (xs.getD k default).2)) (cs := [.int .i64 i0]) ht hx hy rfl rfl (one_cons rfl one_nil) h1 k hi hk bL rfl
  have hsm : Sm D w w' := h1.sm h4 hD
  exact ⟨w', hr, ⟨_, p, h3, (h2.imp fun _ _ h => h.tr hsm).set ⟨rfl, (h2.2 k oM).2.tr hsm⟩⟩, h4⟩
theorem Rk.open' {L : Nat} {D : Nat → TypeId → Prop} {s : Bool} {vn vd : Value} {q : Rat} (h : Rk L D w (s, vn, vd) q) : ∃ A B : SV, vn = sv A ∧ vd = sv B := h.rz.open'
theorem h_appendE {L lo bytes : Nat} {zz v1 v2 : Value} {es : List Ent'} {i0 : Int} {s : Bool} {vn vd : Value} {q : Rat} (hu : P.underlying t = some (.slice e)) (ht : TyI P e 4 bytes zz) (hz : zz.cells.size = 4) (hx : ev f x = v1) (hy : ev f y = v2)
    (ho : Oe L D w lo e v1 es) (hs : Sc D2 w 4 v2 1 [.int .i64 i0, .bool s, vn, vd]) (hq : Rk L D w (s, vn, vd) q) (hD : ∀ b, ¬ D b e) (h63 : es.length + 1 ≤ maxLen) (hby : (es.length + 1) * bytes ≤ 140737488355328) (hlo : lo ≤ w.heap.size) :
    Run P f ⟨dst, .call ⟨.builtin .append, #[x, y], #[t, t]⟩, ty, pos, aft, g⟩ w fun v w' => Oe L D w' lo e v (es ++ [(i0, q)]) ∧ w.grownBy w' v1.ownBlock := by
  obtain ⟨A, B, rfl, rfl⟩ := hq.open'
  have ho' := ho
  obtain ⟨xs, h1, h2⟩ := ho
  obtain ⟨v, w', hr, h4, h5⟩ := h_append (P := P) (f := f) (dst := dst) (ty := ty) (pos := pos) (aft := aft) (g := g) hu ht hz dC hx hy h1 hs (one_ent (i0, s, A, B)) (by rw [h2.1]; exact h63) (by rw [h2.1]; exact hby) hlo
  have hsm : Sm D w w' := ho'.gsm h5 (fun b _ => hD b)
  refine ⟨v, w', hr, ⟨xs ++ [(i0, s, A, B)], ?_, (h2.imp fun _ _ h => h.tr hsm).snoc ⟨rfl, hq.tr hsm⟩⟩, h5⟩
  rw [List.length_append, List.length_singleton, List.map_append, List.flatten_append]
  simpa using h4
theorem cells_ext {w w' : World} {b o : Nat} {l : List Value} (e : Ext w w') (h : ∀ j u, l[j]? = some u → w.cell? ⟨b, o + j, none⟩ = some u) : ∀ j u, l[j]? = some u → w'.cell? ⟨b, o + j, none⟩ = some u := fun j u hj => cell_ext e (h j u hj)
def JOk (TU : TypeId) (B : Nat) (J : List (Rat × Rat) → World → Prop) : Prop :=
  (∀ ps w1 w2, J ps w1 → Sm (fun b T => b < B ∨ T = TU) w1 w2 → J ps w2) ∧ (∀ ps w1 w2 b, J ps w1 → Exc b w1 w2 → Nb w1 b → B ≤ b → J ps w2)
end
end Go.Vg
namespace Go.Vm
abbrev En : Type := Int × Rat
def get : List En → Int → Rat
  | [], _ => 0
  | e :: es, i => (if e.1 = i then e.2 else 0) + get es i
def Asc (es : List En) : Prop := es.Pairwise fun a b => a.1 < b.1
def NonZ (es : List En) : Prop := ∀ e ∈ es, e.2 ≠ 0
theorem get_append (a b : List En) (i : Int) : get (a ++ b) i = get a i + get b i := by
  induction a with
  | nil => rw [List.nil_append]; show get b i = 0 + get b i; rw [Rat.zero_add]
  | cons e a ih => show _ + get (a ++ b) i = _ + get a i + get b i; rw [ih, Rat.add_assoc]
theorem get_perm {a b : List En} (h : a.Perm b) (i : Int) : get a i = get b i := by
  induction h with
  | nil => rfl
  | cons e h ih => show _ + _ = _ + _; rw [ih]
  | swap x y l =>
    show (if y.1 = i then y.2 else 0) + ((if x.1 = i then x.2 else 0) + get l i) = (if x.1 = i then x.2 else 0) + ((if y.1 = i then y.2 else 0) + get l i)
    rw [← Rat.add_assoc, ← Rat.add_assoc, Rat.add_comm (if y.1 = i then y.2 else 0)]
  | trans h1 h2 a b => rw [a, b]
theorem get_none {a : List En} {i : Int} (h : ∀ e ∈ a, e.1 ≠ i) : get a i = 0 := by
  induction a with
  | nil => rfl
  | cons e a ih =>
    show (if e.1 = i then e.2 else 0) + get a i = 0
    rw [if_neg (h e (by simp)), ih (fun e he => h e (by simp [he])), Rat.add_zero]
theorem Asc.tail {e : En} {a : List En} (h : Asc (e :: a)) : Asc a := (List.pairwise_cons.1 h).2
theorem Asc.head {e : En} {a : List En} (h : Asc (e :: a)) : ∀ x ∈ a, e.1 < x.1 := (List.pairwise_cons.1 h).1
theorem get_head {e : En} {a : List En} (h : Asc (e :: a)) : get (e :: a) e.1 = e.2 := by
  show (if e.1 = e.1 then e.2 else 0) + get a e.1 = e.2
  rw [if_pos rfl, get_none (fun x hx => by have := h.head x hx; omega), Rat.add_zero]
theorem get_below {a : List En} {i : Int} (h : ∀ x ∈ a, i < x.1) : get a i = 0 := get_none fun e he => by have := h e he; omega
theorem get_cons_ne {e : En} {a : List En} {i : Int} (h : e.1 ≠ i) : get (e :: a) i = get a i := by
  show (if e.1 = i then e.2 else 0) + get a i = get a i
  rw [if_neg h, Rat.zero_add]
theorem canon_ext : ∀ (a b : List En), Asc a → Asc b → NonZ a → NonZ b → (∀ i, get a i = get b i) → a = b
  | [], [], _, _, _, _, _ => rfl
  | [], y :: b, _, hb, _, zb, h => by have := h y.1; rw [get_head hb] at this; exact absurd this.symm (zb y (by simp))
  | x :: a, [], ha, _, za, _, h => by have := h x.1; rw [get_head ha] at this; exact absurd this (za x (by simp))
  | x :: a, y :: b, ha, hb, za, zb, h => by
    have hx := h x.1
    have hy := h y.1
    rw [get_head ha] at hx
    rw [get_head hb] at hy
    have hxy : x.1 = y.1 := by
      rcases Int.lt_trichotomy x.1 y.1 with h1 | h1 | h1
      · rw [get_below (a := y :: b) (fun z hz => by rcases List.mem_cons.1 hz with rfl | hz; exact h1; exact Int.lt_trans h1 (hb.head z hz))] at hx
        exact absurd hx (za x (by simp))
      · exact h1
      rw [get_below (a := x :: a) (fun z hz => by rcases List.mem_cons.1 hz with rfl | hz; exact h1; exact Int.lt_trans h1 (ha.head z hz))] at hy
      exact absurd hy.symm (zb y (by simp))
    have e1 : x.2 = y.2 := by rw [hx, hxy, get_head hb]
    have e2 : x = y := Prod.ext hxy e1
    subst e2
    congr 1
    refine canon_ext a b ha.tail hb.tail (fun e he => za e (by simp [he])) (fun e he => zb e (by simp [he])) fun i => ?_
    by_cases hi : x.1 = i
    · subst hi
      rw [get_below ha.head, get_below hb.head]
    have := h i
    rwa [get_cons_ne hi, get_cons_ne hi] at this
def Wk (es : List En) : Prop := es.Pairwise fun a b => a.1 ≤ b.1
theorem comp_new {P S : List En} {e : En} {k : Nat} (hk : k < S.length) (he : e = S.getD k default) (hP : Asc P) (hg : ∀ i, get P i = get (S.take k) i) (hlt : ∀ p ∈ P, p.1 < e.1) :
    Asc (P ++ [e]) ∧ ∀ i, get (P ++ [e]) i = get (S.take (k + 1)) i := by
  refine ⟨List.pairwise_append.2 ⟨hP, by simp, fun a ha b hb => by rw [List.mem_singleton.1 hb]; exact hlt a ha⟩, fun i => ?_⟩
  rw [take_snoc S k hk, get_append, get_append, hg, ← he]
theorem comp_add {P S : List En} {e p : En} {k : Nat} (hk : k < S.length) (he : e = S.getD k default) (hP : Asc (P ++ [p])) (hg : ∀ i, get (P ++ [p]) i = get (S.take k) i) (hpe : p.1 = e.1) :
    Asc (P ++ [(p.1, p.2 + e.2)]) ∧ ∀ i, get (P ++ [(p.1, p.2 + e.2)]) i = get (S.take (k + 1)) i := by
  have h := List.pairwise_append.1 hP
  refine ⟨List.pairwise_append.2 ⟨h.1, by simp, fun a ha b hb => by rw [List.mem_singleton.1 hb]; exact h.2.2 a ha p (by simp)⟩, fun i => ?_⟩
  rw [take_snoc S k hk, get_append, get_append, ← hg, get_append, ← he]
  show get P i + ((if p.1 = i then p.2 + e.2 else 0) + 0) = get P i + ((if p.1 = i then p.2 else 0) + 0) + ((if e.1 = i then e.2 else 0) + 0)
  rw [← hpe, Rat.add_zero, Rat.add_zero, Rat.add_zero, Rat.add_assoc]
  split
  · rfl
  rw [Rat.zero_add]
inductive Stp : List En → List En → Int → Rat → Rat → List En → List En → Prop
  | l (x : En) (a : List En) : Stp (x :: a) [] x.1 x.2 0 a []
  | r (y : En) (b : List En) : Stp [] (y :: b) y.1 0 y.2 [] b
  | eq (x y : En) (a b : List En) (h : x.1 = y.1) : Stp (x :: a) (y :: b) x.1 x.2 y.2 a b
  | lt (x y : En) (a b : List En) (h : x.1 < y.1) : Stp (x :: a) (y :: b) x.1 x.2 0 a (y :: b)
  | gt (x y : En) (a b : List En) (h : y.1 < x.1) : Stp (x :: a) (y :: b) y.1 0 y.2 (x :: a) b
theorem Stp.law {a b a' b' : List En} {i : Int} {p q : Rat} (h : Stp a b i p q a' b') (ha : Asc a) (hb : Asc b) :
    Asc a' ∧ Asc b' ∧ (∀ e ∈ a', i < e.1) ∧ (∀ e ∈ b', i < e.1) ∧ get a i = p ∧ get b i = q ∧ (∀ j, j ≠ i → get a j = get a' j ∧ get b j = get b' j) ∧ a'.length + b'.length < a.length + b.length ∧ (∀ z, (∀ e ∈ a, z < e.1) → (∀ e ∈ b, z < e.1) → z < i) := by
  cases h with
  | l x => exact ⟨ha.tail, hb, ha.head, by simp, get_head ha, rfl, fun j hj => ⟨get_cons_ne (Ne.symm hj), rfl⟩, by simp, fun z h1 _ => h1 x (by simp)⟩
  | r y => exact ⟨ha, hb.tail, by simp, hb.head, rfl, get_head hb, fun j hj => ⟨rfl, get_cons_ne (Ne.symm hj)⟩, by simp, fun z _ h1 => h1 y (by simp)⟩
  | eq x y a b h => exact ⟨ha.tail, hb.tail, ha.head, by rw [h]; exact hb.head, get_head ha, by rw [h]; exact get_head hb, fun j hj => ⟨get_cons_ne (Ne.symm hj), get_cons_ne (by rw [← h]; exact Ne.symm hj)⟩, by simp; omega, fun z h1 _ => h1 x (by simp)⟩
  | lt x y a b h => exact ⟨ha.tail, hb, ha.head, fun e he => by rcases List.mem_cons.1 he with rfl | he; exact h; exact Int.lt_trans h (hb.head e he), get_head ha, get_below (fun e he => by rcases List.mem_cons.1 he with rfl | he; exact h; exact Int.lt_trans h (hb.head e he)), fun j hj => ⟨get_cons_ne (Ne.symm hj), rfl⟩, by simp, fun z h1 _ => h1 x (by simp)⟩
  | gt x y a b h => exact ⟨ha, hb.tail, fun e he => by rcases List.mem_cons.1 he with rfl | he; exact h; exact Int.lt_trans h (ha.head e he), hb.head, get_below (fun e he => by rcases List.mem_cons.1 he with rfl | he; exact h; exact Int.lt_trans h (ha.head e he)), get_head hb, fun j hj => ⟨rfl, get_cons_ne (Ne.symm hj)⟩, by simp, fun z _ h1 => h1 y (by simp)⟩
def sumP : List (Rat × Rat) → Rat
  | [] => 0
  | x :: l => x.1 * x.2 + sumP l
def dtF : List En → List En → Rat
  | [], _ => 0
  | e :: a, b => e.2 * get b e.1 + dtF a b
theorem sumP_snoc (l : List (Rat × Rat)) (p q : Rat) : sumP (l ++ [(p, q)]) = sumP l + p * q := by
  induction l with
  | nil => show p * q + 0 = 0 + p * q; rw [Rat.add_zero, Rat.zero_add]
  | cons x l ih => show _ + sumP (l ++ [(p, q)]) = _ + sumP l + p * q; rw [ih, Rat.add_assoc]
theorem dtF_congr {a b b' : List En} (h : ∀ e ∈ a, get b e.1 = get b' e.1) : dtF a b = dtF a b' := by
  induction a with
  | nil => rfl
  | cons e a ih => show _ * _ + _ = _ * _ + _; rw [h e (by simp), ih (fun e he => h e (by simp [he]))]
theorem dtF_nil (a : List En) : dtF a [] = 0 := by
  induction a with
  | nil => rfl
  | cons e a ih => show e.2 * 0 + dtF a [] = 0; rw [ih, Rat.mul_zero, Rat.add_zero]
theorem dtF_cons (a : List En) (e : En) (b : List En) : dtF a (e :: b) = get a e.1 * e.2 + dtF a b := by
  induction a with
  | nil => show (0 : Rat) = 0 * e.2 + 0; rw [Rat.zero_mul, Rat.add_zero]
  | cons x a ih =>
    show x.2 * ((if e.1 = x.1 then e.2 else 0) + get b x.1) + dtF a (e :: b) = ((if x.1 = e.1 then x.2 else 0) + get a e.1) * e.2 + (x.2 * get b x.1 + dtF a b)
    rw [ih]
    by_cases h : x.1 = e.1
    · rw [if_pos h, if_pos h.symm]; grind
    rw [if_neg h, if_neg (Ne.symm h)]; grind
theorem dtF_comm (a b : List En) : dtF a b = dtF b a := by
  induction b with
  | nil => rw [dtF_nil]; rfl
  | cons e b ih => rw [dtF_cons, ih]; show _ = e.2 * get a e.1 + dtF b a; rw [Rat.mul_comm]
theorem dtF_ext {a a' b b' : List En} (ha : ∀ i, get a i = get a' i) (hb : ∀ i, get b i = get b' i) : dtF a b = dtF a' b' := by
  rw [dtF_congr (fun e _ => hb e.1), dtF_comm, dtF_congr (fun e _ => ha e.1), dtF_comm]
theorem Stp.dt {a b a' b' : List En} {i : Int} {p q : Rat} (h : Stp a b i p q a' b') (ha : Asc a) (hb : Asc b) : dtF a b = p * q + dtF a' b' := by
  obtain ⟨h1, h2, h3, h4, h5, h6, h7, _⟩ := h.law ha hb
  have hc : dtF a' b = dtF a' b' := dtF_congr fun e he => (h7 e.1 (by have := h3 e he; omega)).2
  cases h with
  | l x => show x.2 * get [] x.1 + dtF a' [] = x.2 * 0 + dtF a' []; rfl
  | r y => show (0 : Rat) = 0 * y.2 + 0; rw [Rat.zero_mul, Rat.add_zero]
  | eq x y => show x.2 * get (y :: b') x.1 + dtF a' (y :: b') = _; rw [h6, hc]
  | lt x y => show x.2 * get (y :: _) x.1 + dtF a' (y :: _) = _; rw [h6]
  | gt x y => rw [hc, Rat.zero_mul, Rat.zero_add]
structure Mg (op : Rat → Rat → Rat) (a0 b0 a b rs : List En) (ps : List (Rat × Rat)) : Prop where
  aa : Asc a
  ab : Asc b
  ar : Asc rs
  nz : NonZ rs
  lo : ∀ e ∈ rs, (∀ x ∈ a, e.1 < x.1) ∧ (∀ x ∈ b, e.1 < x.1)
  gt : ∀ j, (get a j = get a0 j ∧ get b j = get b0 j ∧ get rs j = 0) ∨ (get a j = 0 ∧ get b j = 0 ∧ get rs j = op (get a0 j) (get b0 j) ∧ (∀ x ∈ a, j < x.1) ∧ (∀ x ∈ b, j < x.1))
  dt : sumP ps + dtF a b = dtF a0 b0
theorem get_snoc_ne {rs : List En} {i j : Int} {q : Rat} (h : j ≠ i) : get (rs ++ [(i, q)]) j = get rs j := by
  rw [get_append]; show get rs j + ((if i = j then q else 0) + 0) = get rs j
  rw [if_neg (Ne.symm h), Rat.add_zero, Rat.add_zero]
theorem get_snoc_eq {rs : List En} {i : Int} {q : Rat} (h : get rs i = 0) : get (rs ++ [(i, q)]) i = q := by
  rw [get_append, h]; show 0 + ((if i = i then q else 0) + 0) = q
  rw [if_pos rfl, Rat.add_zero, Rat.zero_add]
theorem Mg.start {op : Rat → Rat → Rat} {a b : List En} (ha : Asc a) (hb : Asc b) : Mg op a b a b [] [] :=
  ⟨ha, hb, List.Pairwise.nil, (fun _ h => by cases h), (fun _ h => by cases h), fun _ => .inl ⟨rfl, rfl, rfl⟩, by show 0 + _ = _; rw [Rat.zero_add]⟩
theorem Mg.step {op : Rat → Rat → Rat} {a0 b0 a b rs a' b' : List En} {ps : List (Rat × Rat)} {i : Int} {p q : Rat} (H : Mg op a0 b0 a b rs ps) (h : Stp a b i p q a' b') :
    (op p q = 0 → Mg op a0 b0 a' b' rs (ps ++ [(p, q)])) ∧ (op p q ≠ 0 → Mg op a0 b0 a' b' (rs ++ [(i, op p q)]) (ps ++ [(p, q)])) := by
  obtain ⟨h1, h2, h3, h4, h5, h6, h7, h8, h9⟩ := h.law H.aa H.ab
  have hlo : ∀ e ∈ rs, e.1 < i := fun e he => h9 e.1 (H.lo e he).1 (H.lo e he).2
  have hri : get rs i = 0 := get_none fun e he => by have := hlo e he; omega
  have ga' : get a' i = 0 := get_below h3
  have gb' : get b' i = 0 := get_below h4
  have hi' : get a0 i = p ∧ get b0 i = q := by
    rcases H.gt i with ⟨g1, g2, g3⟩ | ⟨g1, g2, g3, g4, g5⟩
    · exact ⟨by rw [← g1, h5], by rw [← g2, h6]⟩
    have := h9 i g4 g5
    omega
  have sub : ∀ e ∈ rs, (∀ x ∈ a', e.1 < x.1) ∧ (∀ x ∈ b', e.1 < x.1) := fun e he => ⟨fun x hx => Int.lt_trans (hlo e he) (h3 x hx), fun x hx => Int.lt_trans (hlo e he) (h4 x hx)⟩
  have low : ∀ j, (∀ x ∈ a, j < x.1) → (∀ x ∈ b, j < x.1) → (∀ x ∈ a', j < x.1) ∧ (∀ x ∈ b', j < x.1) := fun j g4 g5 => by
    have := h9 j g4 g5
    exact ⟨fun x hx => Int.lt_trans this (h3 x hx), fun x hx => Int.lt_trans this (h4 x hx)⟩
  have hdt : sumP (ps ++ [(p, q)]) + dtF a' b' = dtF a0 b0 := by rw [sumP_snoc, Rat.add_assoc, ← h.dt H.aa H.ab]; exact H.dt
  constructor
  · intro hz
    refine ⟨h1, h2, H.ar, H.nz, sub, fun j => ?_, hdt⟩
    by_cases hj : j = i
    · subst hj
      exact .inr ⟨ga', gb', by rw [hri, hi'.1, hi'.2, hz], h3, h4⟩
    obtain ⟨e1, e2⟩ := h7 j hj
    rcases H.gt j with ⟨g1, g2, g3⟩ | ⟨g1, g2, g3, g4, g5⟩
    · exact .inl ⟨by rw [← e1, g1], by rw [← e2, g2], g3⟩
    exact .inr ⟨by rw [← e1, g1], by rw [← e2, g2], g3, (low j g4 g5).1, (low j g4 g5).2⟩
  intro hz
  refine ⟨h1, h2, List.pairwise_append.2 ⟨H.ar, by simp, fun x hx y hy => by rw [List.mem_singleton.1 hy]; exact hlo x hx⟩, fun e he => ?_, fun e he => ?_, fun j => ?_, hdt⟩
  · rcases List.mem_append.1 he with he | he
    · exact H.nz e he
    rw [List.mem_singleton.1 he]; exact hz
  · rcases List.mem_append.1 he with he | he
    · exact sub e he
    rw [List.mem_singleton.1 he]; exact ⟨h3, h4⟩
  by_cases hj : j = i
  · subst hj
    exact .inr ⟨ga', gb', by rw [get_snoc_eq hri, hi'.1, hi'.2], h3, h4⟩
  obtain ⟨e1, e2⟩ := h7 j hj
  rcases H.gt j with ⟨g1, g2, g3⟩ | ⟨g1, g2, g3, g4, g5⟩
  · exact .inl ⟨by rw [← e1, g1], by rw [← e2, g2], by rw [get_snoc_ne hj, g3]⟩
  exact .inr ⟨by rw [← e1, g1], by rw [← e2, g2], by rw [get_snoc_ne hj, g3], (low j g4 g5).1, (low j g4 g5).2⟩
theorem Mg.fin {op : Rat → Rat → Rat} {a0 b0 rs : List En} {ps : List (Rat × Rat)} (H : Mg op a0 b0 [] [] rs ps) (h0 : op 0 0 = 0) : Asc rs ∧ NonZ rs ∧ ∀ i, get rs i = op (get a0 i) (get b0 i) := by
  refine ⟨H.ar, H.nz, fun i => ?_⟩
  rcases H.gt i with ⟨g1, g2, g3⟩ | ⟨g1, g2, g3, _⟩
  · rw [g3, ← g1, ← g2]; exact h0.symm
  exact g3
theorem Mg.sum {op : Rat → Rat → Rat} {a0 b0 rs : List En} {ps : List (Rat × Rat)} (H : Mg op a0 b0 [] [] rs ps) : sumP ps = dtF a0 b0 := by
  rw [← H.dt]; show _ = _ + 0; rw [Rat.add_zero]
end Go.Vm
namespace Go.Vg
open Go Go.RowKit Go.Vm
theorem Fe.wk {R : EC → Ent' → Prop} {xs : List EC} {es : List Ent'} (h : Fe R xs es) (h1 : ∀ x e, R x e → x.1 = e.1) (hs : Srt (fun x : EC => x.1) xs) : Wk es := by
  refine List.pairwise_iff_getElem.2 fun i j hi hj hij => ?_
  have a1 := h1 _ _ (h.2 i hi)
  have a2 := h1 _ _ (h.2 j hj)
  have hi' : i < xs.length := by rw [h.1]; exact hi
  have hj' : j < xs.length := by rw [h.1]; exact hj
  simp only [List.getD_eq_getElem?_getD, List.getElem?_eq_getElem hi, List.getElem?_eq_getElem hj, List.getElem?_eq_getElem hi', List.getElem?_eq_getElem hj', Option.getD_some] at a1 a2
  rw [← a1, ← a2]
  exact List.pairwise_iff_getElem.1 hs i j hi' hj' hij
theorem sort_lift {L : Nat} {D : Nat → TypeId → Prop} {w w' : World} {b n : Nat} {T : TypeId} {xs l : List EC} {post : List Value} {es : List Ent'} (hfe : Fe (Ez L D w) xs es) (hae : Ae post w b T xs n) (hp : NoU post) (hx : Exc b w w') (hl : Ae post w' b T l n) (hs : Srt (fun x : EC => x.1) l) (hst : StE (fun x : EC => x.1) xs l) :
    ∃ S, Av (fun _ => L) D w' b T S n ∧ es.Perm S ∧ Wk S := by
  have hpm : xs.Perm l := by classical exact hst.perm
  obtain ⟨S, h1, h2⟩ := hfe.perm hpm
  exact ⟨S, ⟨l, post, ⟨hl, hp⟩, (h2.imp fun _ _ h => h.apn hx (hae.nb hp)).fi⟩, h1, h2.wk (fun _ _ h => h.1) hs⟩
theorem sort_liftP {L : Nat} {D : Nat → TypeId → Prop} {w w' : World} {b n : Nat} {T : TypeId} {xs l : List EC} {post : List Value} {es : List Ent'} (hfe : Fe (Ek L D w) xs es) (hae : Ae post w b T xs n) (hD : ¬ D b T) (hx : Exc b w w') (hl : Ae post w' b T l n) (hs : Srt (fun x : EC => x.1) l) (hst : StE (fun x : EC => x.1) xs l) :
    ∃ S, Ap L D w' b T S n ∧ es.Perm S ∧ Wk S := by
  have hpm : xs.Perm l := by classical exact hst.perm
  obtain ⟨S, h1, h2⟩ := hfe.perm hpm
  exact ⟨S, ⟨l, post, hl, h2.imp fun _ _ h => h.tr (hae.sm hx hD)⟩, h1, h2.wk (fun _ _ h => h.1) hs⟩
end Go.Vg
namespace Go.Vm
theorem asc_snoc {es : List En} {k : Nat} (h1 : 1 ≤ k) (hk : k < es.length) (ha : Asc (es.take k)) (h : (es.getD (k - 1) default).1 < (es.getD k default).1) : Asc (es.take (k + 1)) := by
  have e1 : es.take k = es.take (k - 1) ++ [es.getD (k - 1) default] := by
    have := take_snoc es (k - 1) oM
    rwa [show k - 1 + 1 = k by omega] at this
  rw [take_snoc es k hk]
  have hp := ha
  rw [e1] at hp
  refine List.pairwise_append.2 ⟨ha, by simp, fun a h2 b hb => ?_⟩
  rw [List.mem_singleton.1 hb]
  rw [e1] at h2
  rcases List.mem_append.1 h2 with h3 | h3
  · exact Int.lt_trans ((List.pairwise_append.1 hp).2.2 a h3 _ (by simp)) h
  rw [List.mem_singleton.1 h3]; exact h
theorem asc_one (es : List En) : Asc (es.take 1) := by
  match es with
  | [] => exact List.Pairwise.nil
  | x :: t => exact List.pairwise_singleton _ x
structure Cp (S fs : List En) (k m : Nat) : Prop where
  km : m ≤ k
  len : fs.length = S.length
  dr : fs.drop k = S.drop k
  asc : Asc (fs.take m)
  gt : ∀ i, get (fs.take m) i = get (S.take k) i
  le : ∀ p ∈ fs.take m, ∀ e ∈ S.drop k, p.1 ≤ e.1
theorem Cp.start (S : List En) : Cp S S 0 0 := ⟨Nat.le_refl _, rfl, rfl, by simp [Asc], fun _ => rfl, fun p hp => by simp at hp⟩
theorem Cp.at {S fs : List En} {k m : Nat} (h : Cp S fs k m) : fs.getD k default = S.getD k default := by
  have := congrArg (fun l => l.getD 0 default) h.dr
  simpa [List.getD_eq_getElem?_getD] using this
theorem take_set_same {α : Type} [Inhabited α] {l : List α} {m : Nat} {x : α} (h : m < l.length) : (l.set m x).take (m + 1) = l.take m ++ [x] := by
  rw [List.take_set, take_snoc l m h, List.set_append_right _ _ (by rw [List.length_take]; omega), List.length_take, show m - min m l.length = 0 by omega]
  rfl
theorem Cp.new {S fs : List En} {k m : Nat} (h : Cp S fs k m) (hk : k < S.length) (hS : Wk S) (hne : m = 0 ∨ (fs.getD (m - 1) default).1 ≠ (fs.getD k default).1) : Cp S (fs.set m (fs.getD k default)) (k + 1) (m + 1) := by
  have hl := h.len
  have hm := h.km
  have hcons : S.drop k = S.getD k default :: S.drop (k + 1) := drop_cons S k hk
  have hat := h.at
  have hwk : ∀ e ∈ S.drop (k + 1), (S.getD k default).1 ≤ e.1 := by
    have h1 : Wk (S.drop k) := List.Pairwise.sublist (List.drop_sublist k S) hS
    rw [hcons] at h1
    exact (List.pairwise_cons.1 h1).1
  have hlt : ∀ p ∈ fs.take m, p.1 < (fs.getD k default).1 := by
    intro p hp
    have h1 := h.le p hp (S.getD k default) (by rw [hcons]; simp)
    rw [← hat] at h1
    rcases hne with h0 | h0
    · subst h0; simp at hp
    rcases Nat.eq_zero_or_pos m with h2 | h2
    · subst h2; simp at hp
    have e1 : fs.take m = fs.take (m - 1) ++ [fs.getD (m - 1) default] := by
      have := take_snoc fs (m - 1) oM
      rwa [show m - 1 + 1 = m by omega] at this
    have hlast := h.le (fs.getD (m - 1) default) (by rw [e1]; simp) (S.getD k default) (by rw [hcons]; simp)
    rw [← hat] at hlast
    rw [e1] at hp
    rcases List.mem_append.1 hp with h3 | h3
    · have h4 := h.asc
      rw [e1] at h4
      have := (List.pairwise_append.1 h4).2.2 p h3 (fs.getD (m - 1) default) (by simp)
      omega
    rw [List.mem_singleton.1 h3]; omega
  have hc := comp_new hk hat h.asc h.gt hlt
  refine ⟨by omega, by simpa using hl, ?_, ?_, ?_, ?_⟩
  · rw [List.drop_set_of_lt oM]
    have := congrArg (List.drop 1) h.dr
    rwa [List.drop_drop, List.drop_drop] at this
  · rw [take_set_same oM]; exact hc.1
  · rw [take_set_same oM]; exact hc.2
  rw [take_set_same oM]
  intro p hp e he
  rcases List.mem_append.1 hp with h3 | h3
  · exact h.le p h3 e (by rw [hcons]; simp [he])
  rw [List.mem_singleton.1 h3, hat]; exact hwk e he
theorem Cp.add {S fs : List En} {k m : Nat} (h : Cp S fs k m) (hk : k < S.length) (hS : Wk S) (hm0 : 0 < m) (heq : (fs.getD (m - 1) default).1 = (fs.getD k default).1) :
    Cp S (fs.set (m - 1) ((fs.getD (m - 1) default).1, (fs.getD (m - 1) default).2 + (fs.getD k default).2)) (k + 1) m := by
  have hl := h.len
  have hm := h.km
  have hcons : S.drop k = S.getD k default :: S.drop (k + 1) := drop_cons S k hk
  have hat := h.at
  have e1 : fs.take m = fs.take (m - 1) ++ [fs.getD (m - 1) default] := by
    have := take_snoc fs (m - 1) oM
    rwa [show m - 1 + 1 = m by omega] at this
  have e2 : ∀ x, (fs.set (m - 1) x).take m = fs.take (m - 1) ++ [x] := fun x => by
    have := take_set_same (l := fs) (m := m - 1) (x := x) oM
    rwa [show m - 1 + 1 = m by omega] at this
  have h4 := h.asc
  have h5 := h.gt
  have h6 := h.le
  rw [e1] at h4 h6
  simp only [e1] at h5
  have hc := comp_add hk hat h4 h5 heq
  refine ⟨by omega, by simpa using hl, ?_, ?_, ?_, ?_⟩
  · rw [List.drop_set_of_lt oM]
    have := congrArg (List.drop 1) h.dr
    rwa [List.drop_drop, List.drop_drop] at this
  · rw [e2]; exact hc.1
  · rw [e2]; exact hc.2
  rw [e2]
  intro p hp e he
  rcases List.mem_append.1 hp with h3 | h3
  · exact h6 p (by simp [h3]) e (by rw [hcons]; simp [he])
  rw [List.mem_singleton.1 h3]
  exact h6 (fs.getD (m - 1) default) (by simp) e (by rw [hcons]; simp [he])
end Go.Vm
namespace Go.Proofs.YtelbjmhhbeijkaaGreat
open Go.Vg Go.RowKit _root_.Go.Proofs.Tryz
set_option linter.unusedVariables false
open Go.Vm
set_option maxHeartbeats 1000000 in
theorem v_byIndex {w : World} {x y : EC} :
    Calls Tryz.prog 30 #[(.agg #[(iv x.1), (.bool (x.2.1)), (sv x.2.2.1), (sv x.2.2.2)]), (.agg #[(iv y.1), (.bool (y.2.1)), (sv y.2.2.1), (sv y.2.2.2)])] w fun e w' => ∃ v, e = .returned v ∧ v = .int .i64 (cmpI x.1 y.1) ∧ Ext w w' := by
 have hE : Below w.heap.size w w := Below.refl _ _
 refine calls_of (n := 10) (rs := [.tmp 4]) func30 rfl rfl rfl bL ?_
 refine wset fun F0 hF0 => ?_
 refine wsr ?_
 refine rU (h_bxA (cs := [(iv x.1), (.bool (x.2.1)), (sv x.2.2.1), (sv x.2.2.2)]) (hF0 0) rfl) ?_
 rintro _ w1 ⟨b2, rfl, hs5, hb4, he3⟩
 have ge_b2 := hE.ge hs5
 replace hE := hE.nx he3
 refine rU (h_bxA (cs := [(iv y.1), (.bool (y.2.1)), (sv y.2.2.1), (sv y.2.2.2)]) (hF0 1) rfl) ?_
 rintro _ w6 ⟨b7, rfl, hs10, hb9, he8⟩
 have lt_b2_b7 := Nat.lt_of_lt_of_eq hb4.lt hs10.symm
 have ge_b7 := hE.ge hs10
 replace hE := hE.nx he8
 refine aS (v := (iv 0)) rfl (RL.nil (wsr (rV (r_fieldAddr uT55 rfl ty3 rfl) ?_)))
 replace hb4 := hb4.ext he8
 have hc11 := hb4.cell (j := 0) (u := (iv x.1)) rfl
 refine rV (r_load uT3 ag3 rfl hc11) (rV (r_fieldAddr uT55 rfl ty3 rfl) ?_)
 have hc12 := hb9.cell (j := 0) (u := (iv y.1)) rfl
 refine rV (r_load uT3 ag3 rfl hc12) ?_
 refine cL ent52 (cmp_int _) rfl ?_
 rintro _ _ ⟨rfl, rfl⟩
 refine aS (v := (iv (cmpI x.1 y.1))) rfl (RL.nil ?_)
 refine wret ?_
 refine ⟨[(iv (cmpI x.1 y.1))], ⟨rfl, trivial⟩, ?_⟩
 exact ⟨rfl, hE⟩
theorem byidx_ok {b : Nat} {w0 : World} : CmpOk Tryz.prog 30 [] encE (fun x : EC => x.1) (fun _ => True) b w0 := fun _ _ _ _ _ _ => v_byIndex
theorem asc_no {es : List En} {k : Nat} (h1 : 1 ≤ k) (hk : k < es.length) (h : (es.getD k default).1 ≤ (es.getD (k - 1) default).1) : ¬ Asc es := fun ha => by
  have h2 := List.pairwise_iff_getElem.1 ha (k - 1) k oM hk oM
  rw [List.getD_eq_getElem?_getD, List.getD_eq_getElem?_getD, List.getElem?_eq_getElem hk, List.getElem?_eq_getElem oM] at h
  exact absurd h (Int.not_le.2 h2)
set_option maxHeartbeats 1000000 in
theorem v_ascending {w : World} {L : Nat} {Des : Nat → TypeId → Prop} {ves : Value} {es : List Ent'} (hes0 : Es L Des w ves es) :
    Calls Tryz.prog 65 #[ves] w fun e w' => ∃ v, e = .returned v ∧ (∃ r : Bool, v = .bool r ∧ (r = true ↔ Asc es)) ∧ Ext w w' := by
 have hE : Below w.heap.size w w := Below.refl _ _
 have hes := hes0.old
 clear hes0
 refine calls_of (n := 22) (rs := [.tmp 2]) func65 rfl rfl rfl bL ?_
 refine wset fun F0 hF0 => ?_
 refine wsr (aS (v := (.bool false)) rfl (RL.nil (wseq (wsr (aS (v := (iv 1)) rfl (RL.nil ?_))))))
 refine wblock ?_
 refine wset fun F1 hF2 => ?_
 refine wloop (σ := Nat) (fun (k : Nat) fl wl => Off (rg 2 20 []) F1 fl ∧ fl 3 = (iv k) ∧ (1 ≤ k) ∧ (k ≤ max 1 es.length) ∧ (Asc (es.take k)) ∧ (Es L (fun b T => Des b T ∧ b < w.heap.size) wl ves es) ∧ (Below w.heap.size w wl)) (fun (k : Nat) => es.length - k) (1) ?_ ?_
 ·exact ⟨Off.refl _ _, (hF2 3).trans (rfl), Nat.le_refl _, Nat.le_max_left _ _, asc_one es, hes, hE⟩
 clear hes hE
 rintro k f3 w4 ⟨G5, hs6, hk1, hk2, hA, hes, hE⟩
 refine wseq (wsr (mV hs6 (mV (v := ves) ((G5 0 rfl).trans ((hF2 0).trans (hF0 0))) ?_)))
 obtain ⟨A7, c8, hv9, hc10, hc11⟩ := hes.len
 refine rV (r_len uT22 hv9) (rV (r_lss (k := .i64) (a := (k : Int)) (b := ((es.length : Nat) : Int)) rfl rfl) (RL.nil ?_))
 refine wcD (p := (k : Int) < ((es.length : Nat) : Int)) rfl (fun hb12 hb12p => ?_) (fun hb12 hb12p => ?_)
 ·refine wskip ?_
  refine wseq ?_
  refine wblock ?_
  refine wseq ?_
  refine wdraw mixed fun w13 he14 => ?_
  replace hE := hE.nx he14
  refine aM 0 rfl (v := ves) ((G5 0 rfl).trans ((hF2 0).trans (hF0 0))) ?_
  refine aM 1 rfl (v := (iv k)) hs6 ?_
  refine ra 2 rfl (fun _ => r_sub (k := .i64) (a := (k : Int)) (b := 1) (c := ((k - 1 : Nat) : Int)) rfl rfl ((wi64 oM).trans oM)) ?_
  replace hes := hes.tr (Sm.ext he14)
  obtain ⟨b15, o16, c17, s22, A20, B21, x23, d24, hv18, hc19, hx25, lm26, ln27, hd28, lm29, ln30, eq31⟩ := hes.ix (i := ((k - 1 : Nat) : Int)) (k - 1) oM oM
  refine ra 3 rfl (fun _ => r_indexAddr (i := ((k - 1 : Nat) : Int)) uT22 ty55 hv18 rfl oM oM) ?_
  refine ra 4 rfl (fun _ => r_fieldAddr uT55 rfl ty3 rfl) ?_
  refine aR 5 rfl (fun u hu => r_load (v := (iv ((es.getD (k - 1) default).1))) uT3 ag3 rfl (cell_ext hu (hc19 0 _ rfl))) ?_
  refine aM 6 rfl (v := ves) ((G5 0 rfl).trans ((hF2 0).trans (hF0 0))) ?_
  refine aM 7 rfl (v := (iv k)) hs6 ?_
  obtain ⟨b32, o33, c34, s39, A37, B38, x40, d41, hv35, hc36, hx42, lm43, ln44, hd45, lm46, ln47, eq48⟩ := hes.ix (i := (k : Int)) (k) oM oM
  refine ra 8 rfl (fun _ => r_indexAddr (i := (k : Int)) uT22 ty55 hv35 rfl oM oM) ?_
  refine ra 9 rfl (fun _ => r_fieldAddr uT55 rfl ty3 rfl) ?_
  refine aR 10 rfl (fun u hu => r_load (v := (iv ((es.getD (k) default).1))) uT3 ag3 rfl (cell_ext hu (hc36 0 _ rfl))) ?_
  refine ra 11 rfl (fun _ => r_geq (k := .i64) (a := (es.getD (k - 1) default).1) (b := (es.getD (k) default).1) rfl rfl) ?_
  refine RA.done kR ?_
  refine wcD (p := ((es.getD (k) default).1) ≤ ((es.getD (k - 1) default).1)) rfl (fun hb49 hb49p => ?_) (fun hb49 hb49p => ?_)
  ·refine wsr ?_
   refine aS (v := (.bool false)) rfl (RL.nil ?_)
   refine wret ?_
   refine ⟨[(.bool false)], ⟨rfl, trivial⟩, ?_⟩
   exact ⟨⟨_, rfl, (fun h => by cases h), fun h => absurd h (asc_no hk1 oM oM)⟩, hE⟩
  refine wskip ?_
  refine wregion (mV hs6 (rV (r_add (k := .i64) (a := (k : Int)) (b := 1) (c := (k : Int) + 1) rfl rfl (wi64 oM)) (aS (v := (iv ((k : Int) + 1))) rfl (RL.nil ?_))))
  refine ⟨(k + 1), ⟨?_, ?_, ?_, ?_, ?_, ?_, ?_⟩, ?_⟩
  · exact (by repeat (first | exact G5 | refine Off.st ?_ dC _))
  · first | rfl | exact int_eq oM | exact bool_eq (by simp)
  · omega
  · omega
  · exact asc_snoc hk1 oM hA oM
  · exact hes
  · exact hE
  (try dsimp only)
  omega
 refine wexit ?_
 refine wsr (aS (v := (.bool true)) rfl (RL.nil ?_))
 refine wret ?_
 refine ⟨[(.bool true)], ⟨rfl, trivial⟩, ?_⟩
 rw [List.take_of_length_le oM] at hA
 exact ⟨⟨_, rfl, (fun _ => hA), fun _ => rfl⟩, hE⟩
end Go.Proofs.YtelbjmhhbeijkaaGreat
namespace Go.Proofs.YtelbjmhhbeijkaaGreat
open Go.Vg Go.RowKit _root_.Go.Proofs.Tryz
set_option linter.unusedVariables false
open Go.Vm
def bfun (k B L : Nat) : Nat → Nat := fun j => if j < k then B else L
theorem bfun_lt {k B L j : Nat} (h : j < k) : bfun k B L j = B := if_pos h
theorem bfun_ge {k B L j : Nat} (h : ¬ j < k) : bfun k B L j = L := if_neg h
theorem bfun_up {k B L B' : Nat} (hB : B ≤ B') (hL : L ≤ B) : ∀ j, bfun k B L j ≤ bfun (k + 1) B' L j := fun j => by
  unfold bfun; split <;> split <;> omega
theorem bfun_le {k B L j : Nat} (hL : L ≤ B) : bfun k B L j ≤ B := by unfold bfun; split <;> omega
theorem room_next {n k t B M : Nat} (hk : k < n) (h : B + (n - k) * t ≤ M) : B + t + (n - (k + 1)) * t ≤ M := by
  have e : n - k = (n - (k + 1)) + 1 := by omega
  rw [e, Nat.succ_mul] at h
  omega
set_option maxHeartbeats 4000000 in
theorem v_arrange {w : World} {L : Nat} {Des : Nat → TypeId → Prop} {ves : Value} {es : List Ent'} (hes0 : Es L Des w ves es) {M : Nat} (hfit : (Asc es ∧ L ≤ M) ∨ (es.length + 1) * (L + 3) ≤ M) (hM : M ≤ 17179869184) :
    Calls Tryz.prog 44 #[ves] w fun e w' => ∃ v, e = .returned v ∧ (∃ es', Es M (fun b T => (Des b T ∧ b < w.heap.size) ∨ (w.heap.size ≤ b ∧ (T = 55 ∨ T = 89))) w' v es' ∧ Asc es' ∧ (∀ i, get es' i = get es i) ∧ es'.length ≤ es.length) ∧ Ext w w' := by
 have hE : Below w.heap.size w w := Below.refl _ _
 have hes := hes0.old
 clear hes0
 refine calls_of (n := 61) (rs := [.tmp 2]) func44 rfl rfl rfl bL ?_
 refine wset fun F0 hF0 => ?_
 refine wsr (aS (v := (.slice none (0) (0))) rfl (RL.nil (wseq (wsr (mV (v := ves) (hF0 0) ?_)))))
 refine cL ent65 (v_ascending hes) rfl ?_
 rintro _ w1 ⟨⟨r, rfl, hasc⟩, he2⟩
 replace hE := hE.nx he2
 refine RL.nil ?_
 refine wcond (b := r) rfl (fun hb3 => ?_) (fun hb3 => ?_)
 ·have hb3p := hb3
  have hr : r = true := hb3
  refine wsr (mV (v := ves) (hF0 0) (aS (v := ves) rfl (RL.nil ?_)))
  refine wret ?_
  refine ⟨[ves], ⟨rfl, trivial⟩, ?_⟩
  replace hes := hes.tr (Sm.ext he2)
  refine ⟨⟨es, (hes.mono (fun _ _ h => .inl h)).wide (by have := Nat.le_mul_of_pos_left (L + 3) (show 0 < es.length + 1 by omega); rcases hfit with h | h <;> omega), hasc.1 hr, fun _ => rfl, Nat.le_refl _⟩, hE⟩
 have hb3p := hb3
 have hna : ¬ Asc es := fun h => by rw [hasc.2 h] at hb3; cases hb3
 have hLF : (es.length + 1) * (L + 3) ≤ M := hfit.resolve_left (fun h => hna h.1)
 have hfit2 : es.length + 1 ≤ (es.length + 1) * (L + 3) := Nat.le_mul_of_pos_right _ oM
 have hfit3 : L + 3 ≤ (es.length + 1) * (L + 3) := Nat.le_mul_of_pos_left _ oM
 refine wskip ?_
 refine wsr (mV (v := ves) (hF0 0) ?_)
 obtain ⟨A4, c5, hv6, hc7, hc8⟩ := hes.len
 refine rV (r_len uT22 hv6) ?_
 have hn14 : (((es.length : Nat) : Int) : Int) = ((es.length : Nat) : Int) := by omega
 refine rU (h_make (n := es.length) (c := es.length) uT22 ty55 rfl (int_eq hn14) (int_eq hn14) (Nat.le_refl _) oM oM) ?_
 rintro _ w9 ⟨b10, rfl, hs13, hb12, he11⟩
 have ge_b10 := hE.ge hs13
 replace hb12 := Av.made (L := (fun _ => L)) (D := (fun b T => (Des b T ∧ b < w.heap.size) ∨ (w.heap.size ≤ b ∧ (T = 55 ∨ T = 89)))) hb12
 refine aS (v := (.slice (some ⟨b10, 0, none⟩) (es.length) (es.length))) rfl (RL.nil (wsr (mV (v := (.slice (some ⟨b10, 0, none⟩) (es.length) (es.length))) rfl (mV (v := ves) (hF0 0) ?_))))
 replace hes := hes.tr (Sm.ext (Ext.trans he2 he11))
 refine rU (h_copyE uT22 ty55 rfl rfl hb12 hes oM (fun _ _ h => .inl h)) ?_
 rintro _ w15 ⟨rfl, ha16, hx17⟩
 replace hb12 := ha16
 refine RL.nil (wsr (mV (v := (.slice (some ⟨b10, 0, none⟩) (es.length) (es.length))) rfl ?_))
 obtain ⟨xs0, post0, ⟨hae, hpp⟩, hfi⟩ := id hb12
 refine RL.call rfl rfl dC (r_call (vl := [(.slice (some ⟨b10, 0, none⟩) (es.length) (es.length)), (.func (.func 30) #[] #[])]) ent66 rfl) (sortStable_ent (key := fun x : EC => x.1) (ok := fun _ => True) (cl := []) ent30 byidx_ok (Exc.of_ext (Ext.refl _)) hae oM (fun _ _ => trivial)) ?_
 rintro _ w18 ⟨rfl, ⟨l0, hl0, hsr, hst0⟩, hx19⟩
 replace hE := ((hE.nx he11).nb hx17 ge_b10).nb hx19 ge_b10
 obtain ⟨S0, hS0, hprm, hwk⟩ := sort_lift hfi hae hpp hx19 hl0 hsr hst0
 replace hb12 := hS0
 refine RL.nil (wsr (aS (v := (iv 0)) rfl (RL.nil (wseq (wseq ?_)))))
 have hS0l : S0.length = es.length := hprm.length_eq.symm
 refine wregion (mV (v := (.slice (some ⟨b10, 0, none⟩) (es.length) (es.length))) rfl (rV (r_len uT22 rfl) (mV (v := (iv 0)) rfl (RL.nil ?_))))
 refine wblock ?_
 refine wset fun F20 hF21 => ?_
 refine wloop (σ := Nat × Nat × Nat × List Ent') (fun (s : Nat × Nat × Nat × List Ent') fl wl => match s with | (k, m, B, fs) => Off (4 :: (6 :: (rg 20 38 []))) F20 fl ∧ fl 20 = (iv k) ∧ fl 4 = (iv m) ∧ (k ≤ es.length) ∧ (Cp S0 fs k m) ∧ (L ≤ B) ∧ (B + (es.length - k) * (L + 3) ≤ (es.length + 1) * (L + 3)) ∧ (Av (bfun k B L) (fun b T => (Des b T ∧ b < w.heap.size) ∨ (w.heap.size ≤ b ∧ (T = 55 ∨ T = 89))) wl b10 55 fs es.length) ∧ (Es L (fun b T => Des b T ∧ b < w.heap.size) wl ves es) ∧ (Below w.heap.size w wl)) (fun (s : Nat × Nat × Nat × List Ent') => match s with | (k, m, B, fs) => es.length - k) (0, 0, L, S0) ?_ ?_
 ·replace hes := (hes.tr (Sm.exc hx17 (fun _ _ _ _ hd => absurd hd.2 (Nat.not_lt_of_le ge_b10)))).tr (Sm.exc hx19 (fun _ _ _ _ hd => absurd hd.2 (Nat.not_lt_of_le ge_b10)))
  exact ⟨Off.refl _ _, (hF21 20).trans (rfl), (hF21 4).trans (rfl), Nat.zero_le _, Cp.start S0, Nat.le_refl _, (by rw [Nat.sub_zero, Nat.add_mul]; omega), (hb12.wide (fun j _ => Nat.le_of_eq (bfun_ge oM).symm)), hes, hE⟩
 clear hes hE hb12
 rintro ⟨k, m, B, fs⟩ f22 w23 ⟨G24, hs25, hs26, hk, hC, hBL, hBM, hb12, hes, hE⟩
 refine wsr (rV (r_lss (k := .i64) (a := (k : Int)) (b := ((es.length : Nat) : Int)) hs25 ((G24 19 rfl).trans (hF21 19))) (RL.nil (wseq ?_)))
 refine wcD (p := (k : Int) < ((es.length : Nat) : Int)) rfl (fun hb27 hb27p => ?_) (fun hb27 hb27p => ?_)
 ·refine wskip ?_
  refine wseq ?_
  refine wblock ?_
  refine wseq ?_
  have hS0l : S0.length = es.length := hprm.length_eq.symm
  have hfl := hC.len
  have hkm := hC.km
  refine wregion (rV (r_indexAddr (i := (k : Int)) uT22 ty55 ((G24 18 rfl).trans (hF21 18)) hs25 oM oM) ?_)
  obtain ⟨s32, A30, B31, x33, d34, hc28, hc29, hx35, lm36, ln37, hd38, lm39, ln40, eq41⟩ := hb12.ix (i := (k : Int)) (k) oM oM
  rw [bfun_ge oM] at ln37 ln40
  refine rV (r_loada (cs := [(iv ((fs.getD (k) default).1)), (.bool s32), (sv A30), (sv B31)]) uT55 ag55 ty55 rfl hc28) ?_
  refine rU (h_alloc (cs := [(iv 0), (.bool false), (.slice none 0 0), (.slice none 0 0)]) ty55 rfl) ?_
  rintro _ w42 ⟨b43, rfl, hs46, hb45, he44⟩
  have lt_b10_b43 := Nat.lt_of_lt_of_eq hb12.lt hs46.symm
  have ge_b43 := hE.ge hs46
  refine RL.runs rfl rfl (h_stA (cs := [(iv ((fs.getD (k) default).1)), (.bool s32), (sv A30), (sv B31)]) (o := 0) ty55 rfl rfl rfl rfl (one_cons rfl (one_cons rfl (one_cons hx35.one (one_cons hd38.one one_nil)))) hb45 bL) ?_
  rintro w47 ⟨hn48, hx49, hz50⟩
  have nb_hx49 := (Nb.of hb45 (nu_cons rfl (nu_cons rfl (nu_cons rfl (nu_cons rfl nu_nil)))))
  replace hb45 : Bk w47 b43 55 [(iv ((fs.getD (k) default).1)), (.bool s32), (sv A30), (sv B31)] := hn48
  refine RL.nil (wseq (wseq ?_))
  refine wdraw mixed fun w51 he52 => ?_
  replace hE := ((hE.nx he44).nb hx49 ge_b43).nx he52
  refine aM 0 rfl (v := (iv m)) hs26 ?_
  refine ra 1 rfl (fun _ => r_gtr (k := .i64) (a := (m : Int)) (b := 0) rfl rfl) ?_
  refine aM 2 rfl (v := (bd (0 < (m : Int)))) rfl ?_
  rcases bD (0 < (m : Int)) with ⟨hb53, hb53p⟩ | ⟨hb53, hb53p⟩
  ·have hm0 : 0 < m := by omega
   refine aG 3 rfl rfl (bool_eq hb53) (fun _ => r_move_as (v := (.slice (some ⟨b10, 0, none⟩) (es.length) (es.length))) ((G24 3 rfl).trans (hF21 3))) ?_
   refine aG 4 rfl rfl (bool_eq hb53) (fun _ => r_move_as (v := (iv m)) hs26) ?_
   refine aG 5 rfl rfl (bool_eq hb53) (fun _ => r_sub (k := .i64) (a := (m : Int)) (b := 1) (c := ((m - 1 : Nat) : Int)) rfl rfl ((wi64 oM).trans oM)) ?_
   refine aG 6 rfl rfl (bool_eq hb53) (fun _ => r_indexAddr (i := ((m - 1 : Nat) : Int)) uT22 ty55 rfl rfl oM oM) ?_
   refine aG 7 rfl rfl (bool_eq hb53) (fun _ => r_fieldAddr uT55 rfl ty3 rfl) ?_
   replace hb12 := ((hb12.ext he44).apn hx49 (Nat.ne_of_lt lt_b10_b43) nb_hx49).ext he52
   obtain ⟨s58, A56, B57, x59, d60, hc54, hc55, hx61, lm62, ln63, hd64, lm65, ln66, eq67⟩ := hb12.ix (i := ((m - 1 : Nat) : Int)) (m - 1) oM oM
   rw [bfun_lt oM] at ln63 ln66
   refine RA.grd 8 rfl kR rfl rfl rfl (bool_eq hb53) rfl dC (Ext.refl _) (fun u hu => r_load (v := (iv ((fs.getD (m - 1) default).1))) uT3 ag3 rfl (cell_ext hu (hc54 0 _ rfl))) ?_
   refine aG 9 rfl rfl (bool_eq hb53) (fun _ => r_fieldAddr uT55 rfl ty3 rfl) ?_
   replace hb45 := hb45.ext he52
   have hc68 := hb45.cell (j := 0) (u := (iv ((fs.getD (k) default).1))) rfl
   refine RA.grd 10 rfl kR rfl rfl rfl (bool_eq hb53) rfl dC (Ext.refl _) (fun u hu => r_load uT3 ag3 rfl (cell_ext hu hc68)) ?_
   refine aG 11 rfl rfl (bool_eq hb53) (fun _ => r_eql (k := .i64) (a := (fs.getD (m - 1) default).1) (b := (fs.getD (k) default).1) rfl rfl) ?_
   refine ra 12 rfl (fun _ => r_pick_t (v := (bd (((fs.getD (m - 1) default).1) = ((fs.getD (k) default).1)))) (bool_eq hb53) rfl) ?_
   refine RA.done kR ?_
   refine wcD (p := ((fs.getD (m - 1) default).1) = ((fs.getD (k) default).1)) rfl (fun hb69 hb69p => ?_) (fun hb69 hb69p => ?_)
   ·have heq := hb69p
    refine wseq ?_
    refine wdraw mixed fun w70 he71 => ?_
    replace hE := hE.nx he71
    refine aM 0 rfl (v := (.slice (some ⟨b10, 0, none⟩) (es.length) (es.length))) ((G24 3 rfl).trans (hF21 3)) ?_
    refine aM 1 rfl (v := (iv m)) hs26 ?_
    refine ra 2 rfl (fun _ => r_sub (k := .i64) (a := (m : Int)) (b := 1) (c := ((m - 1 : Nat) : Int)) rfl rfl ((wi64 oM).trans oM)) ?_
    refine aM 3 rfl (v := (.slice (some ⟨b10, 0, none⟩) (es.length) (es.length))) ((G24 3 rfl).trans (hF21 3)) ?_
    refine aM 4 rfl (v := (iv m)) hs26 ?_
    refine ra 5 rfl (fun _ => r_sub (k := .i64) (a := (m : Int)) (b := 1) (c := ((m - 1 : Nat) : Int)) rfl rfl ((wi64 oM).trans oM)) ?_
    refine ra 6 rfl (fun _ => r_indexAddr (i := ((m - 1 : Nat) : Int)) uT22 ty55 rfl rfl oM oM) ?_
    refine ra 7 rfl (fun _ => r_fieldAddr uT55 rfl ty44 rfl) ?_
    replace hb12 := hb12.ext he71
    obtain ⟨s76, A74, B75, x77, d78, hc72, hc73, hx79, lm80, ln81, hd82, lm83, ln84, eq85⟩ := hb12.ix (i := ((m - 1 : Nat) : Int)) (m - 1) oM oM
    rw [bfun_lt oM] at ln81 ln84
    refine aR 8 rfl (fun u hu => r_loada (cs := [(.bool s76), (sv A74), (sv B75)]) uT44 ag44 ty44 rfl (fun j v hj => cell_ext hu (hc73 j v hj))) ?_
    refine ra 9 rfl (fun _ => r_fieldAddr uT55 rfl ty44 rfl) ?_
    replace hb45 := hb45.ext he71
    have hc86 := hb45.cells (o := 1) (cs := [(.bool s32), (sv A30), (sv B31)]) rfl
    refine aR 10 rfl (fun u hu => r_loada (o := 1) (cs := [(.bool s32), (sv A30), (sv B31)]) uT44 ag44 ty44 rfl (fun j v hj => cell_ext hu (hc86 j v hj))) ?_
    refine RA.all [11] kR rfl ?_
    replace hx35 := ((hx35.tr (Sm.ext he44)).apn hx49 nb_hx49).tr (Sm.ext (Ext.trans he52 he71))
    replace hd38 := ((hd38.tr (Sm.ext he44)).apn hx49 nb_hx49).tr (Sm.ext (Ext.trans he52 he71))
    refine RS.call rfl rfl rfl dC (r_call (vl := [(.agg #[(.bool s76), (sv A74), (sv B75)]), (.agg #[(.bool s32), (sv A30), (sv B31)])]) ent46 rfl) (q_add hx79 lm80 oS hd82 lm83 oS (show ratOf s76 (val x77) (val d78) = (fs.getD (m - 1) default).2 from eq85) hx35 lm36 oS hd38 lm39 oS (show ratOf s32 (val x33) (val d34) = (fs.getD (k) default).2 from eq41)) ?_ RS.nil
    rintro _ w87 ⟨⟨vn89, vd91, rfl, hn90, hd92, hl93, hl94⟩, he88⟩
    refine rm he88 ?_
    have hlv95 := den_one (((fs.getD (m - 1) default).2) + ((fs.getD (k) default).2))
    replace hn90 := hn90.fr hE
    replace hd92 := hd92.fr hE
    refine ra 12 rfl (fun _ => r_indexAddr (i := ((m - 1 : Nat) : Int)) uT22 ty55 rfl rfl oM oM) ?_
    refine ra 13 rfl (fun _ => r_fieldAddr uT55 rfl ty44 rfl) ?_
    refine RA.all [14] kR rfl ?_
    replace hb12 := hb12.ext he88
    replace hb12 := hb12.wide (L' := bfun (k + 1) (B + (L + 3)) L) (fun j _ => bfun_up oM hBL j)
    refine RS.runs rfl rfl rfl (h_setVr (i := ((m - 1 : Nat) : Int)) (q := (((fs.getD (m - 1) default).2) + ((fs.getD (k) default).2))) ty44 rfl rfl hb12 (m - 1) ((Rz.of (L := B + (L + 3)) (hn90.mono (fun b T h => by first | exact h | exact .inr ⟨h.1, .inr h.2⟩ | exact .inl h)) (digs_lm _) oM (hd92.mono (fun b T h => by first | exact h | exact .inr ⟨h.1, .inr h.2⟩ | exact .inl h)) (digs_lm _) oM (ratOf_canon _)).wide (Nat.le_of_eq (bfun_lt oM).symm)) oM oM) ?_ RS.nil
    rintro w96 ⟨ha97, hx98⟩
    refine ⟨.inr (.inl kR), ?_⟩
    replace hE := (hE.nx he88).nb hx98 ge_b10
    replace hb12 := ha97
    refine RA.done kR ?_
    refine wexit ?_
    refine wregion (rV (r_add (k := .i64) (a := (k : Int)) (b := 1) (c := (k : Int) + 1) hs25 rfl (wi64 oM)) (mV (v := (iv ((k : Int) + 1))) rfl (RL.nil ?_)))
    have hm99 := Ext.trans he52 (Ext.trans he71 he88)
    replace hes := (((hes.tr (Sm.ext he44)).tr (Sm.exc hx49 (fun _ _ _ _ hd => absurd hd.2 (Nat.not_lt_of_le ge_b43)))).tr (Sm.ext hm99)).tr (Sm.exc hx98 (fun _ _ _ _ hd => absurd hd.2 (Nat.not_lt_of_le ge_b10)))
    refine ⟨(k + 1, m, B + (L + 3), (fs.set (m - 1) ((fs.getD (m - 1) default).1, (((fs.getD (m - 1) default).2) + ((fs.getD (k) default).2))))), ⟨?_, ?_, ?_, ?_, ?_, ?_, ?_, ?_, ?_, ?_⟩, ?_⟩
    · exact (by repeat (first | exact G24 | refine Off.st ?_ dC _))
    · first | rfl | exact int_eq oM | exact bool_eq (by simp)
    · refine (hs26).trans ?_
      first | rfl | exact int_eq oM | exact bool_eq (by simp)
    · omega
    · exact hC.add oM hwk hm0 heq
    · omega
    · exact room_next oM hBM
    · exact hb12
    · exact hes
    · exact hE
    (try dsimp only)
    omega
   have heq := hb69p
   refine wskip ?_
   refine wsr (mV (v := (.slice (some ⟨b10, 0, none⟩) (es.length) (es.length))) ((G24 3 rfl).trans (hF21 3)) (mV hs26 ?_))
   have hc100 := hb45.cells (o := 0) (cs := [(iv ((fs.getD (k) default).1)), (.bool s32), (sv A30), (sv B31)]) rfl
   refine rV (r_loada (o := 0) (cs := [(iv ((fs.getD (k) default).1)), (.bool s32), (sv A30), (sv B31)]) uT55 ag55 ty55 rfl hc100) (rV (r_indexAddr (i := (m : Int)) uT22 ty55 rfl rfl oM oM) ?_)
   replace hb12 := hb12.wide (L' := bfun (k + 1) (B + (L + 3)) L) (fun j _ => bfun_up oM hBL j)
   replace hx35 := ((hx35.tr (Sm.ext he44)).apn hx49 nb_hx49).tr (Sm.ext he52)
   replace hd38 := ((hd38.tr (Sm.ext he44)).apn hx49 nb_hx49).tr (Sm.ext he52)
   refine RL.runs rfl rfl (h_setV (i := (m : Int)) (q := (fs.getD (k) default).2) ty55 rfl rfl hb12 (m) ((Rz.of (L := B + (L + 3)) (hx35.mono (fun b T h => by first | exact h | exact .inr ⟨h.1, .inr h.2⟩ | exact .inl h)) lm36 oM (hd38.mono (fun b T h => by first | exact h | exact .inr ⟨h.1, .inr h.2⟩ | exact .inl h)) lm39 oM (show ratOf s32 (val x33) (val d34) = (fs.getD (k) default).2 from eq41)).wide (Nat.le_of_eq (bfun_lt oM).symm)) oM oM) ?_
   rintro w101 ⟨ha102, hx103⟩
   replace hE := hE.nb hx103 ge_b10
   replace hb12 := ha102
   refine RL.nil (wregion (mV hs26 (rV (r_add (k := .i64) (a := (m : Int)) (b := 1) (c := ((m + 1 : Nat) : Int)) rfl rfl ((wi64 oM).trans oM)) (aS (v := (iv (m + 1 : Nat))) rfl (RL.nil (wregion (rV (r_add (k := .i64) (a := (k : Int)) (b := 1) (c := (k : Int) + 1) hs25 rfl (wi64 oM)) (mV (v := (iv ((k : Int) + 1))) rfl (RL.nil ?_)))))))))
   replace hes := (((hes.tr (Sm.ext he44)).tr (Sm.exc hx49 (fun _ _ _ _ hd => absurd hd.2 (Nat.not_lt_of_le ge_b43)))).tr (Sm.ext he52)).tr (Sm.exc hx103 (fun _ _ _ _ hd => absurd hd.2 (Nat.not_lt_of_le ge_b10)))
   refine ⟨(k + 1, m + 1, B + (L + 3), (fs.set (m) ((fs.getD (k) default).1, (fs.getD (k) default).2))), ⟨?_, ?_, ?_, ?_, ?_, ?_, ?_, ?_, ?_, ?_⟩, ?_⟩
   · exact (by repeat (first | exact G24 | refine Off.st ?_ dC _))
   · first | rfl | exact int_eq oM | exact bool_eq (by simp)
   · first | rfl | exact int_eq oM | exact bool_eq (by simp)
   · omega
   · exact hC.new oM hwk (by first | exact .inl hm0 | exact .inr heq)
   · omega
   · exact room_next oM hBM
   · exact hb12
   · exact hes
   · exact hE
   (try dsimp only)
   omega
  have hm0 : m = 0 := by omega
  refine aN 3 rfl rfl (.inl (bool_eq hb53)) ?_
  refine aN 4 rfl rfl (.inl (bool_eq hb53)) ?_
  refine aN 5 rfl rfl (.inl (bool_eq hb53)) ?_
  refine aN 6 rfl rfl (.inl (bool_eq hb53)) ?_
  refine aN 7 rfl rfl (.inl (bool_eq hb53)) ?_
  refine aN 8 rfl rfl (.inl (bool_eq hb53)) ?_
  refine aN 9 rfl rfl (.inl (bool_eq hb53)) ?_
  refine aN 10 rfl rfl (.inl (bool_eq hb53)) ?_
  refine aN 11 rfl rfl (.inl (bool_eq hb53)) ?_
  refine ra 12 rfl (fun _ => r_pick_f (v := (.bool false)) (bool_eq hb53) rfl) ?_
  refine RA.done kR ?_
  refine wcond_f rfl ?_
  refine wskip ?_
  refine wsr (mV (v := (.slice (some ⟨b10, 0, none⟩) (es.length) (es.length))) ((G24 3 rfl).trans (hF21 3)) (mV hs26 ?_))
  replace hb45 := hb45.ext he52
  have hc104 := hb45.cells (o := 0) (cs := [(iv ((fs.getD (k) default).1)), (.bool s32), (sv A30), (sv B31)]) rfl
  refine rV (r_loada (o := 0) (cs := [(iv ((fs.getD (k) default).1)), (.bool s32), (sv A30), (sv B31)]) uT55 ag55 ty55 rfl hc104) (rV (r_indexAddr (i := (m : Int)) uT22 ty55 rfl rfl oM oM) ?_)
  replace hb12 := ((hb12.ext he44).apn hx49 (Nat.ne_of_lt lt_b10_b43) nb_hx49).ext he52
  replace hb12 := hb12.wide (L' := bfun (k + 1) (B + (L + 3)) L) (fun j _ => bfun_up oM hBL j)
  replace hx35 := ((hx35.tr (Sm.ext he44)).apn hx49 nb_hx49).tr (Sm.ext he52)
  replace hd38 := ((hd38.tr (Sm.ext he44)).apn hx49 nb_hx49).tr (Sm.ext he52)
  refine RL.runs rfl rfl (h_setV (i := (m : Int)) (q := (fs.getD (k) default).2) ty55 rfl rfl hb12 (m) ((Rz.of (L := B + (L + 3)) (hx35.mono (fun b T h => by first | exact h | exact .inr ⟨h.1, .inr h.2⟩ | exact .inl h)) lm36 oM (hd38.mono (fun b T h => by first | exact h | exact .inr ⟨h.1, .inr h.2⟩ | exact .inl h)) lm39 oM (show ratOf s32 (val x33) (val d34) = (fs.getD (k) default).2 from eq41)).wide (Nat.le_of_eq (bfun_lt oM).symm)) oM oM) ?_
  rintro w105 ⟨ha106, hx107⟩
  replace hE := hE.nb hx107 ge_b10
  replace hb12 := ha106
  refine RL.nil (wregion (mV hs26 (rV (r_add (k := .i64) (a := (m : Int)) (b := 1) (c := ((m + 1 : Nat) : Int)) rfl rfl ((wi64 oM).trans oM)) (aS (v := (iv (m + 1 : Nat))) rfl (RL.nil (wregion (rV (r_add (k := .i64) (a := (k : Int)) (b := 1) (c := (k : Int) + 1) hs25 rfl (wi64 oM)) (mV (v := (iv ((k : Int) + 1))) rfl (RL.nil ?_)))))))))
  replace hes := (((hes.tr (Sm.ext he44)).tr (Sm.exc hx49 (fun _ _ _ _ hd => absurd hd.2 (Nat.not_lt_of_le ge_b43)))).tr (Sm.ext he52)).tr (Sm.exc hx107 (fun _ _ _ _ hd => absurd hd.2 (Nat.not_lt_of_le ge_b10)))
  refine ⟨(k + 1, m + 1, B + (L + 3), (fs.set (m) ((fs.getD (k) default).1, (fs.getD (k) default).2))), ⟨?_, ?_, ?_, ?_, ?_, ?_, ?_, ?_, ?_, ?_⟩, ?_⟩
  · exact (by repeat (first | exact G24 | refine Off.st ?_ dC _))
  · first | rfl | exact int_eq oM | exact bool_eq (by simp)
  · first | rfl | exact int_eq oM | exact bool_eq (by simp)
  · omega
  · exact hC.new oM hwk (by first | exact .inl hm0 | exact .inr heq)
  · omega
  · exact room_next oM hBM
  · exact hb12
  · exact hes
  · exact hE
  (try dsimp only)
  omega
 refine wexit ?_
 refine wseq ?_
 have hS0l : S0.length = es.length := hprm.length_eq.symm
 have hfl := hC.len
 have hkm := hC.km
 have hke : k = es.length := by omega
 rw [hke, Nat.sub_self, Nat.zero_mul, Nat.add_zero] at hBM
 refine wregion (mV (v := (.slice (some ⟨b10, 0, none⟩) (es.length) (es.length))) ((G24 3 rfl).trans (hF21 3)) (mV hs26 (rV (r_sh (h := (m : Int)) (kk := m) uT22 ty55 rfl rfl oM oM) (aS (v := (.slice (some ⟨b10, 0, none⟩) (m) (es.length))) rfl (RL.nil ?_)))))
 refine wret ?_
 refine ⟨[(.slice (some ⟨b10, 0, none⟩) (m) (es.length))], ⟨rfl, trivial⟩, ?_⟩
 have hrd := (hb12.rd (c := es.length) (L0 := M) (fun j _ => Nat.le_trans (bfun_le hBL) oM) (.inr ⟨ge_b10, .inl rfl⟩) (Nat.le_refl _) oM).take m (by rw [hb12.len]; omega) rfl
 exact ⟨⟨fs.take m, hrd, hC.asc, fun i => by rw [hC.gt, show k = es.length by omega, List.take_of_length_le oM, get_perm hprm], by rw [List.length_take]; omega⟩, hE⟩
end Go.Proofs.YtelbjmhhbeijkaaGreat
namespace Go.Proofs.YtelbjmhhbeijkaaGreat
open Go.Vg Go.RowKit _root_.Go.Proofs.Tryz
set_option linter.unusedVariables false
open Go.Vm
def OpOk (P : Program) (kc : Nat) (cl : List Value) (ob : Option Nat) (K L L2 : Nat) (op : Rat → Rat → Rat) (J : List (Rat × Rat) → World → Prop) : Prop :=
  ∀ {w : World} {ps : List (Rat × Rat)} {s1 : Bool} {D1 E1 : Nat → TypeId → Prop} {v1 u1 : Value} {x1 d1 : List Nat} {p : Rat} {s2 : Bool} {D2 E2 : Nat → TypeId → Prop} {v2 u2 : Value} {x2 d2 : List Nat} {q : Rat}, ps.length < K → J ps w →
    Sg (gN .u32) D1 w v1 x1 → Lm x1 → x1.length ≤ L → Sg (gN .u32) E1 w u1 d1 → Lm d1 → d1.length ≤ L → ratOf s1 (val x1) (val d1) = p →
    Sg (gN .u32) D2 w v2 x2 → Lm x2 → x2.length ≤ L → Sg (gN .u32) E2 w u2 d2 → Lm d2 → d2.length ≤ L → ratOf s2 (val x2) (val d2) = q →
    Calls P kc ([Value.agg #[.bool s1, v1, u1], Value.agg #[.bool s2, v2, u2]] ++ cl).toArray w fun e w' => ∃ v, e = .returned v ∧ ((∃ s' vn vd xn xd, v = .agg #[.bool s', vn, vd] ∧ Sg (gN .u32) (fun b T => w.heap.size ≤ b ∧ T = 89) w' vn xn ∧ Lm xn ∧ xn.length ≤ L2 ∧ Sg (gN .u32) (fun b T => w.heap.size ≤ b ∧ T = 89) w' vd xd ∧ Lm xd ∧ xd.length ≤ L2 ∧ ratOf s' (val xn) (val xd) = op p q ∧
      (op p q ≠ 0 → s' = decide ((op p q).num < 0) ∧ xn = digs (op p q).num.natAbs ∧ xd = digs (op p q).den)) ∧ J (ps ++ [(p, q)]) w' ∧ Gro ob w w')
theorem cons0 {a : List En} (h : 0 < a.length) : a = a.getD 0 default :: a.drop 1 := drop_cons a 0 h
theorem stp_l {a b : List En} (ha : 0 < a.length) (hb : b.length = 0) : Stp a b (a.getD 0 default).1 (a.getD 0 default).2 0 (a.drop 1) b := by
  rw [List.eq_nil_of_length_eq_zero hb]
  have := Stp.l (a.getD 0 default) (a.drop 1)
  rwa [← cons0 ha] at this
theorem stp_eq {a b : List En} (ha : 0 < a.length) (hb : 0 < b.length) (h : (b.getD 0 default).1 = (a.getD 0 default).1) : Stp a b (a.getD 0 default).1 (a.getD 0 default).2 (b.getD 0 default).2 (a.drop 1) (b.drop 1) := by
  have := Stp.eq (a.getD 0 default) (b.getD 0 default) (a.drop 1) (b.drop 1) h.symm
  rwa [← cons0 ha, ← cons0 hb] at this
theorem stp_lt {a b : List En} (ha : 0 < a.length) (hb : 0 < b.length) (h : (a.getD 0 default).1 < (b.getD 0 default).1) : Stp a b (a.getD 0 default).1 (a.getD 0 default).2 0 (a.drop 1) b := by
  have := Stp.lt (a.getD 0 default) (b.getD 0 default) (a.drop 1) (b.drop 1) h
  rwa [← cons0 ha, ← cons0 hb] at this
theorem stp_r {a b : List En} (hb : 0 < b.length) (h : a.length = 0 ∨ 0 < a.length ∧ (b.getD 0 default).1 < (a.getD 0 default).1) : Stp a b (b.getD 0 default).1 0 (b.getD 0 default).2 a (b.drop 1) := by
  rcases h with h | ⟨ha, h⟩
  · rw [List.eq_nil_of_length_eq_zero h]
    have := Stp.r (b.getD 0 default) (b.drop 1)
    rwa [← cons0 hb] at this
  have := Stp.gt (a.getD 0 default) (b.getD 0 default) (a.drop 1) (b.drop 1) h
  rwa [← cons0 ha, ← cons0 hb] at this
theorem stp_len {a b a' b' : List En} {i : Int} {p q : Rat} (h : Stp a b i p q a' b') : a'.length + b'.length < a.length + b.length := by
  cases h <;> simp <;> omega
set_option maxHeartbeats 8000000 in
theorem v_merge {w : World} {L L2 : Nat} {D : Nat → TypeId → Prop} {vxa vxb : Value} {xa xb : List Ent'} {kc : Nat} {cl : List Value} {ob : Option Nat} {op : Rat → Rat → Rat} {J : List (Rat × Rat) → World → Prop} (hxa0 : Es L D w vxa xa) (hxb0 : Es L D w vxb xb) (hasca : Asc xa) (hascb : Asc xb) (hent : Ent Tryz.prog kc) {K : Nat} (hop : OpOk Tryz.prog kc cl ob K L L2 op J) (hK : xa.length + xb.length ≤ K) (hJk : JOk 89 w.heap.size J) (hJ : J [] w) (hobl : ∀ k, ob = some k → k < w.heap.size) (hobd : ∀ k T, ob = some k → ¬ D k T) (hla : xa.length ≤ 1048576) (hlb : xb.length ≤ 1048576) (hL : L ≤ 17179869184) (hL2 : L2 ≤ 17179869184) :
    Calls Tryz.prog 43 #[vxa, vxb, (.func (.func kc) #[] cl.toArray)] w fun e w' => ∃ v, e = .returned v ∧ (∃ rs ps, Oe L2 (fun b T => w.heap.size ≤ b ∧ T = 89) w' w.heap.size 55 v rs ∧ Mg op xa xb [] [] rs ps ∧ J ps w' ∧ rs.length ≤ xa.length + xb.length ∧ ps.length ≤ xa.length + xb.length ∧ v.ownBlock ≠ none) ∧ Gro ob w w' := by
 have hE : Gro ob w w := Gro.refl ob w
 have hA := hxa0.old
 have hB := hxb0.old
 clear hxa0 hxb0
 have hlo : w.heap.size ≤ w.heap.size := Nat.le_refl _
 have hobD : ∀ k T, ob = some k → ¬ (D k T ∧ k < w.heap.size) := fun k T h hd => hobd k T h hd.1
 have hobF : ∀ k T, ob = some k → ¬ (w.heap.size ≤ k ∧ T = 89) := fun k T h hd => absurd hd.1 (Nat.not_le_of_lt (hobl k h))
 refine calls_of (n := 96) (rs := [.tmp 6]) func43 rfl rfl rfl bL ?_
 refine wset fun F0 hF0 => ?_
 refine wsr (aS (v := (.slice none (0) (0))) rfl (RL.nil (wsr (mV (v := vxa) (hF0 0) ?_))))
 obtain ⟨A1, c2, hv3, hc4, hc5⟩ := hA.len
 refine rV (r_len uT22 hv3) (mV (v := vxb) (hF0 1) ?_)
 obtain ⟨A6, c7, hv8, hc9, hc10⟩ := hB.len
 refine rV (r_len uT22 hv8) (rV (r_max2 (a := ((xa.length : Nat) : Int)) (b := ((xb.length : Nat) : Int)) rfl rfl) ?_)
 obtain ⟨cp, hcp, hcpl⟩ : ∃ c : Nat, (if ((xb.length : Nat) : Int) > ((xa.length : Nat) : Int) then ((xb.length : Nat) : Int) else ((xa.length : Nat) : Int)) = (c : Int) ∧ c ≤ 1048576 := ⟨max xa.length xb.length, by (repeat split) <;> omega, by omega⟩
 refine rU (h_make (n := 0) (c := cp) uT22 ty55 rfl rfl (int_eq hcp) (Nat.zero_le _) oM oM) ?_
 rintro _ w11 ⟨b12, rfl, hs15, hb14, he13⟩
 have ge_b12 := hE.ge hs15
 replace hE := hE.nx he13
 replace hJ := hJk.1 _ _ _ hJ (Sm.ext he13)
 have ho16 := Oe.room (L := L2) (D := (fun b T => w.heap.size ≤ b ∧ T = 89)) (c := cp) hb14 ge_b12 (by simp [Nat.mul_comm]; rfl) (by simp only [maxLen]; omega)
 refine aS (v := (.slice (some ⟨b12, 0, none⟩) 0 cp)) rfl (RL.nil (wseq ?_))
 refine wblock ?_
 refine wset fun F17 hF18 => ?_
 refine wloop (σ := List Ent' × List Ent' × List Ent' × List (Rat × Rat) × Value × Value × Value) (fun (s : List Ent' × List Ent' × List Ent' × List (Rat × Rat) × Value × Value × Value) fl wl => match s with | (a, b, rs, ps, va, vb, vr) => Off (rg 0 2 (rg 7 5 (rg 18 77 []))) F17 fl ∧ fl 0 = va ∧ fl 1 = vb ∧ fl 7 = vr ∧ (vr.ownBlock ≠ none) ∧ (Mg op xa xb a b rs ps) ∧ (ps.length + (a.length + b.length) ≤ xa.length + xb.length) ∧ (a.length + b.length + rs.length ≤ xa.length + xb.length) ∧ (Es L (fun b T => D b T ∧ b < w.heap.size) wl va a) ∧ (Es L (fun b T => D b T ∧ b < w.heap.size) wl vb b) ∧ (Oe L2 (fun b T => w.heap.size ≤ b ∧ T = 89) wl w.heap.size 55 vr rs) ∧ (J ps wl) ∧ (Gro ob w wl)) (fun (s : List Ent' × List Ent' × List Ent' × List (Rat × Rat) × Value × Value × Value) => match s with | (a, b, rs, ps, va, vb, vr) => a.length + b.length) (xa, xb, [], [], vxa, vxb, (.slice (some ⟨b12, 0, none⟩) 0 cp)) ?_ ?_
 ·replace hA := hA.tr (Sm.ext he13)
  replace hB := hB.tr (Sm.ext he13)
  exact ⟨Off.refl _ _, (hF18 0).trans (((hF0 0)).trans rfl), (hF18 1).trans (((hF0 1)).trans rfl), (hF18 7).trans (rfl), (by simp [Value.ownBlock]), Mg.start hasca hascb, by simp, by simp, hA, hB, ho16, hJ, hE⟩
 clear hA hB hE hJ ho16
 rintro ⟨a, b, rs, ps, va, vb, vr⟩ f19 w20 ⟨G21, hs22, hs23, hs24, hnn, hM, hpl, hll, hA, hB, hR, hJ, hE⟩
 refine wset fun F25 hF26 => ?_
 refine wcut (fun fl wl => Off (rg 18 8 []) F25 fl ∧ (0 < a.length + b.length) ∧ (Es L (fun b T => D b T ∧ b < w.heap.size) wl va a) ∧ (Es L (fun b T => D b T ∧ b < w.heap.size) wl vb b) ∧ (Gro ob w wl) ∧ (J ps wl) ∧ (Oe L2 (fun b T => w.heap.size ≤ b ∧ T = 89) wl w.heap.size 55 vr rs)) ?_ ?_
 ·have G27 := Off.refl (rg 18 8 []) F25
  refine wsr (mV (v := va) ((hF26 0).trans hs22) ?_)
  obtain ⟨A28, c29, hv30, hc31, hc32⟩ := hA.len
  refine rV (r_len uT22 hv30) (rV (r_gtr (k := .i64) (a := ((a.length : Nat) : Int)) (b := 0) rfl rfl) (mV (v := (bd (0 < ((a.length : Nat) : Int)))) rfl ?_))
  rcases bD (0 < ((a.length : Nat) : Int)) with ⟨hb33, hb33p⟩ | ⟨hb33, hb33p⟩
  ·refine RL.gno rfl rfl (bool_eq hb33) rfl dC ?_
   refine RL.gno rfl rfl (bool_eq hb33) rfl dC ?_
   refine RL.gno rfl rfl (bool_eq hb33) rfl dC ?_
   refine rV (r_pick_t (v := (.bool true)) (bool_eq hb33) rfl) (RL.nil ?_)
   refine wcond_t rfl ?_
   refine wskip ?_
   refine ⟨?_, ?_, ?_, ?_, ?_, ?_, ?_⟩
   · exact (by repeat (first | exact G27 | refine Off.st ?_ dC _ | refine Off.via G21 dC ?_ | refine Off.eq hF18 ?_))
   · omega
   · exact hA
   · exact hB
   · exact hE
   · exact hJ
   exact hR
  refine RL.gval rfl rfl (bool_eq hb33) rfl dC (r_move_as (v := vb) ((hF26 1).trans hs23)) ?_
  obtain ⟨A34, c35, hv36, hc37, hc38⟩ := hB.len
  refine RL.gval rfl rfl (bool_eq hb33) rfl dC (r_len uT22 hv36) ?_
  refine RL.gval rfl rfl (bool_eq hb33) rfl dC (r_gtr (k := .i64) (a := ((b.length : Nat) : Int)) (b := 0) rfl rfl) ?_
  refine rV (r_pick_f (v := (bd (0 < ((b.length : Nat) : Int)))) (bool_eq hb33) rfl) (RL.nil ?_)
  refine wcD (p := 0 < ((b.length : Nat) : Int)) rfl (fun hb39 hb39p => ?_) (fun hb39 hb39p => ?_)
  ·refine wskip ?_
   refine ⟨?_, ?_, ?_, ?_, ?_, ?_, ?_⟩
   · exact (by repeat (first | exact G27 | refine Off.st ?_ dC _ | refine Off.via G21 dC ?_ | refine Off.eq hF18 ?_))
   · omega
   · exact hA
   · exact hB
   · exact hE
   · exact hJ
   exact hR
  refine wexit ?_
  refine wsr (mV (v := vr) ((hF26 7).trans hs24) (aS (v := vr) rfl (RL.nil ?_)))
  refine wret ?_
  refine ⟨[vr], ⟨rfl, trivial⟩, ?_⟩
  have ha0 : a = [] := List.eq_nil_of_length_eq_zero oM
  have hb0 : b = [] := List.eq_nil_of_length_eq_zero oM
  rw [ha0, hb0] at hM
  exact ⟨⟨rs, ps, hR, hM, hJ, by omega, by omega, hnn⟩, hE⟩
 clear hA hB hE hJ hR
 rintro f40 w41 ⟨G42, hab, hA, hB, hE, hJ, hR⟩
 refine wblock ?_
 refine wsr (aS (v := (iv 0)) rfl (RL.nil (wsr ?_)))
 refine rU (h_alloc (cs := [(.bool false), (.slice none 0 0), (.slice none 0 0)]) ty44 rfl) ?_
 rintro _ w43 ⟨b44, rfl, hs47, hb46, he45⟩
 have ge_b44 := hE.ge hs47
 have on_vr_b44 : vr.ownBlock ≠ some b44 := fun h => absurd (hR.lt _ h) (by rw [hs47]; exact Nat.lt_irrefl _)
 replace hE := hE.nx he45
 replace hJ := hJk.1 _ _ _ hJ (Sm.ext he45)
 refine rU (h_alloc (cs := [(.bool false), (.slice none 0 0), (.slice none 0 0)]) ty44 rfl) ?_
 rintro _ w48 ⟨b49, rfl, hs52, hb51, he50⟩
 have lt_b44_b49 := Nat.lt_of_lt_of_eq hb46.lt hs52.symm
 have ge_b49 := hE.ge hs52
 replace hR := hR.ext he45
 have on_vr_b49 : vr.ownBlock ≠ some b49 := fun h => absurd (hR.lt _ h) (by rw [hs52]; exact Nat.lt_irrefl _)
 replace hE := hE.nx he50
 replace hJ := hJk.1 _ _ _ hJ (Sm.ext he50)
 refine RL.nil ?_
 refine wset fun F53 hF54 => ?_
 refine wcut (fun fl wl => ∃ i : Int, ∃ p : Rat, ∃ q : Rat, ∃ a2 : List Ent', ∃ b2 : List Ent', ∃ va2 : Value, ∃ vb2 : Value, ∃ s1 : Bool, ∃ v1 : Value, ∃ u1 : Value, ∃ x1 : List Nat, ∃ d1 : List Nat, ∃ s2 : Bool, ∃ v2 : Value, ∃ u2 : Value, ∃ x2 : List Nat, ∃ d2 : List Nat, Off (rg 0 2 (8 :: (rg 26 56 []))) F53 fl ∧ fl 8 = (iv i) ∧ fl 0 = va2 ∧ fl 1 = vb2 ∧ (Stp a b i p q a2 b2) ∧ (Lm x1) ∧ (x1.length ≤ L) ∧ (Lm d1) ∧ (d1.length ≤ L) ∧ (ratOf s1 (val x1) (val d1) = p) ∧ (Lm x2) ∧ (x2.length ≤ L) ∧ (Lm d2) ∧ (d2.length ≤ L) ∧ (ratOf s2 (val x2) (val d2) = q) ∧ (Es L (fun b T => D b T ∧ b < w.heap.size) wl va2 a2) ∧ (Es L (fun b T => D b T ∧ b < w.heap.size) wl vb2 b2) ∧ (Bk wl b44 44 [.bool s1, v1, u1]) ∧ (Sg (gN .u32) (fun b T => D b T ∧ b < w.heap.size) wl v1 x1) ∧ (Sg (gN .u32) (fun b T => D b T ∧ b < w.heap.size) wl u1 d1) ∧ (Bk wl b49 44 [.bool s2, v2, u2]) ∧ (Sg (gN .u32) (fun b T => D b T ∧ b < w.heap.size) wl v2 x2) ∧ (Sg (gN .u32) (fun b T => D b T ∧ b < w.heap.size) wl u2 d2) ∧ (Gro ob w wl) ∧ (J ps wl) ∧ (Oe L2 (fun b T => w.heap.size ≤ b ∧ T = 89) wl w.heap.size 55 vr rs)) ?_ ?_
 ·have G55 := Off.refl (rg 0 2 (8 :: (rg 26 56 []))) F53
  refine wset fun F56 hF57 => ?_
  refine wcut (fun fl wl => ∃ t : Bool, Off (rg 26 19 []) F56 fl ∧ fl 44 = (.bool t) ∧ ((t = true ∧ 0 < a.length ∧ (b.length = 0 ∨ (0 < b.length ∧ (a.getD (0) default).1 ≤ (b.getD (0) default).1))) ∨ (t = false ∧ 0 < b.length ∧ (a.length = 0 ∨ (0 < a.length ∧ (b.getD (0) default).1 < (a.getD (0) default).1)))) ∧ (Es L (fun b T => D b T ∧ b < w.heap.size) wl va a) ∧ (Es L (fun b T => D b T ∧ b < w.heap.size) wl vb b) ∧ (Gro ob w wl) ∧ (J ps wl) ∧ (Oe L2 (fun b T => w.heap.size ≤ b ∧ T = 89) wl w.heap.size 55 vr rs) ∧ (Bk wl b44 44 [(.bool false), (.slice none 0 0), (.slice none 0 0)]) ∧ (Bk wl b49 44 [(.bool false), (.slice none 0 0), (.slice none 0 0)])) ?_ ?_
  ·have G58 := Off.refl (rg 26 19 []) F56
   refine wdraw mixed fun w59 he60 => ?_
   replace hE := hE.nx he60
   replace hJ := hJk.1 _ _ _ hJ (Sm.ext he60)
   refine aM 0 rfl (v := vb) ((hF57 1).trans ((hF54 1).trans ((G42 1 rfl).trans ((hF26 1).trans hs23)))) ?_
   obtain ⟨A61, c62, hv63, hc64, hc65⟩ := hB.len
   refine ra 1 rfl (fun _ => r_len uT22 hv63) ?_
   refine ra 2 rfl (fun _ => r_eql (k := .i64) (a := ((b.length : Nat) : Int)) (b := 0) rfl rfl) ?_
   refine aM 3 rfl (v := (bd (((b.length : Nat) : Int) = 0))) rfl ?_
   rcases bD (((b.length : Nat) : Int) = 0) with ⟨hb66, hb66p⟩ | ⟨hb66, hb66p⟩
   ·refine aN 4 rfl rfl (.inl (bool_eq hb66)) ?_
    refine aN 5 rfl rfl (.inl (bool_eq hb66)) ?_
    refine aN 6 rfl rfl (.inl (bool_eq hb66)) ?_
    refine aN 7 rfl rfl (.inl (bool_eq hb66)) ?_
    refine aN 8 rfl rfl (.inr rfl) ?_
    refine aN 9 rfl rfl (.inr rfl) ?_
    refine aN 10 rfl rfl (.inr rfl) ?_
    refine aN 11 rfl rfl (.inr rfl) ?_
    refine aN 12 rfl rfl (.inr rfl) ?_
    refine aN 13 rfl rfl (.inr rfl) ?_
    refine aN 14 rfl rfl (.inr rfl) ?_
    refine aN 15 rfl rfl (.inr rfl) ?_
    refine aN 16 rfl rfl (.inr rfl) ?_
    refine aN 17 rfl rfl (.inl (bool_eq hb66)) ?_
    refine ra 18 rfl (fun _ => r_pick_t (v := (.bool true)) (bool_eq hb66) rfl) ?_
    refine RA.done kR ?_
    have hm67 := Ext.trans he45 (Ext.trans he50 he60)
    replace hA := hA.tr (Sm.ext hm67)
    replace hB := hB.tr (Sm.ext hm67)
    replace hR := hR.ext (Ext.trans he50 he60)
    replace hb46 := hb46.ext (Ext.trans he50 he60)
    replace hb51 := hb51.ext he60
    refine ⟨true, ?_, ?_, ?_, ?_, ?_, ?_, ?_, ?_, ?_, ?_⟩
    · exact (by repeat (first | exact G58 | refine Off.st ?_ dC _ | refine Off.via G42 dC ?_ | refine Off.eq hF26 ?_ | refine Off.via G21 dC ?_ | refine Off.eq hF18 ?_))
    · rfl
    · first | exact .inl ⟨rfl, by omega, by omega⟩ | exact .inr ⟨rfl, by omega, by omega⟩ | (by_cases h9 : (a.getD (0) default).1 ≤ (b.getD (0) default).1; exact .inl ⟨decide_eq_true h9, by omega, by omega⟩; exact .inr ⟨decide_eq_false h9, by omega, by omega⟩)
    · exact hA
    · exact hB
    · exact hE
    · exact hJ
    · exact hR
    · exact hb46
    exact hb51
   refine aG 4 rfl rfl (bool_eq hb66) (fun _ => r_move_as (v := va) ((hF57 0).trans ((hF54 0).trans ((G42 0 rfl).trans ((hF26 0).trans hs22))))) ?_
   obtain ⟨A68, c69, hv70, hc71, hc72⟩ := hA.len
   refine aG 5 rfl rfl (bool_eq hb66) (fun _ => r_len uT22 hv70) ?_
   refine aG 6 rfl rfl (bool_eq hb66) (fun _ => r_gtr (k := .i64) (a := ((a.length : Nat) : Int)) (b := 0) rfl rfl) ?_
   refine aG 7 rfl rfl (bool_eq hb66) (fun _ => r_move_as (v := (bd (0 < ((a.length : Nat) : Int)))) rfl) ?_
   rcases bD (0 < ((a.length : Nat) : Int)) with ⟨hb73, hb73p⟩ | ⟨hb73, hb73p⟩
   ·refine aG 8 rfl rfl (bool_eq hb73) (fun _ => r_move_as (v := va) ((hF57 0).trans ((hF54 0).trans ((G42 0 rfl).trans ((hF26 0).trans hs22))))) ?_
    have hm91 := Ext.trans he45 (Ext.trans he50 he60)
    replace hA := hA.tr (Sm.ext hm91)
    obtain ⟨b74, o75, c76, s81, A79, B80, x82, d83, hv77, hc78, hx84, lm85, ln86, hd87, lm88, ln89, eq90⟩ := hA.ix (i := 0) (0) oM oM
    refine aG 9 rfl rfl (bool_eq hb73) (fun _ => r_indexAddr (i := 0) uT22 ty55 hv77 rfl oM oM) ?_
    refine aG 10 rfl rfl (bool_eq hb73) (fun _ => r_fieldAddr uT55 rfl ty3 rfl) ?_
    refine RA.grd 11 rfl kR rfl rfl rfl (bool_eq hb73) rfl dC (Ext.refl _) (fun u hu => r_load (v := (iv ((a.getD (0) default).1))) uT3 ag3 rfl (cell_ext hu (hc78 0 _ rfl))) ?_
    refine aG 12 rfl rfl (bool_eq hb73) (fun _ => r_move_as (v := vb) ((hF57 1).trans ((hF54 1).trans ((G42 1 rfl).trans ((hF26 1).trans hs23))))) ?_
    replace hB := hB.tr (Sm.ext hm91)
    obtain ⟨b92, o93, c94, s99, A97, B98, x100, d101, hv95, hc96, hx102, lm103, ln104, hd105, lm106, ln107, eq108⟩ := hB.ix (i := 0) (0) oM oM
    refine aG 13 rfl rfl (bool_eq hb73) (fun _ => r_indexAddr (i := 0) uT22 ty55 hv95 rfl oM oM) ?_
    refine aG 14 rfl rfl (bool_eq hb73) (fun _ => r_fieldAddr uT55 rfl ty3 rfl) ?_
    refine RA.grd 15 rfl kR rfl rfl rfl (bool_eq hb73) rfl dC (Ext.refl _) (fun u hu => r_load (v := (iv ((b.getD (0) default).1))) uT3 ag3 rfl (cell_ext hu (hc96 0 _ rfl))) ?_
    refine aG 16 rfl rfl (bool_eq hb73) (fun _ => r_leq (k := .i64) (a := (a.getD (0) default).1) (b := (b.getD (0) default).1) rfl rfl) ?_
    refine aG 17 rfl rfl (bool_eq hb66) (fun _ => r_pick_t (v := (bd (((a.getD (0) default).1) ≤ ((b.getD (0) default).1)))) (bool_eq hb73) rfl) ?_
    refine ra 18 rfl (fun _ => r_pick_f (v := (bd (((a.getD (0) default).1) ≤ ((b.getD (0) default).1)))) (bool_eq hb66) rfl) ?_
    refine RA.done kR ?_
    replace hR := hR.ext (Ext.trans he50 he60)
    replace hb46 := hb46.ext (Ext.trans he50 he60)
    replace hb51 := hb51.ext he60
    refine ⟨decide (((a.getD (0) default).1) ≤ ((b.getD (0) default).1)), ?_, ?_, ?_, ?_, ?_, ?_, ?_, ?_, ?_, ?_⟩
    · exact (by repeat (first | exact G58 | refine Off.st ?_ dC _ | refine Off.via G42 dC ?_ | refine Off.eq hF26 ?_ | refine Off.via G21 dC ?_ | refine Off.eq hF18 ?_))
    · rfl
    · first | exact .inl ⟨rfl, by omega, by omega⟩ | exact .inr ⟨rfl, by omega, by omega⟩ | (by_cases h9 : (a.getD (0) default).1 ≤ (b.getD (0) default).1; exact .inl ⟨decide_eq_true h9, by omega, by omega⟩; exact .inr ⟨decide_eq_false h9, by omega, by omega⟩)
    · exact hA
    · exact hB
    · exact hE
    · exact hJ
    · exact hR
    · exact hb46
    exact hb51
   refine aN 8 rfl rfl (.inl (bool_eq hb73)) ?_
   refine aN 9 rfl rfl (.inl (bool_eq hb73)) ?_
   refine aN 10 rfl rfl (.inl (bool_eq hb73)) ?_
   refine aN 11 rfl rfl (.inl (bool_eq hb73)) ?_
   refine aN 12 rfl rfl (.inl (bool_eq hb73)) ?_
   refine aN 13 rfl rfl (.inl (bool_eq hb73)) ?_
   refine aN 14 rfl rfl (.inl (bool_eq hb73)) ?_
   refine aN 15 rfl rfl (.inl (bool_eq hb73)) ?_
   refine aN 16 rfl rfl (.inl (bool_eq hb73)) ?_
   refine aG 17 rfl rfl (bool_eq hb66) (fun _ => r_pick_f (v := (.bool false)) (bool_eq hb73) rfl) ?_
   refine ra 18 rfl (fun _ => r_pick_f (v := (.bool false)) (bool_eq hb66) rfl) ?_
   refine RA.done kR ?_
   have hm109 := Ext.trans he45 (Ext.trans he50 he60)
   replace hA := hA.tr (Sm.ext hm109)
   replace hB := hB.tr (Sm.ext hm109)
   replace hR := hR.ext (Ext.trans he50 he60)
   replace hb46 := hb46.ext (Ext.trans he50 he60)
   replace hb51 := hb51.ext he60
   refine ⟨false, ?_, ?_, ?_, ?_, ?_, ?_, ?_, ?_, ?_, ?_⟩
   · exact (by repeat (first | exact G58 | refine Off.st ?_ dC _ | refine Off.via G42 dC ?_ | refine Off.eq hF26 ?_ | refine Off.via G21 dC ?_ | refine Off.eq hF18 ?_))
   · rfl
   · first | exact .inl ⟨rfl, by omega, by omega⟩ | exact .inr ⟨rfl, by omega, by omega⟩ | (by_cases h9 : (a.getD (0) default).1 ≤ (b.getD (0) default).1; exact .inl ⟨decide_eq_true h9, by omega, by omega⟩; exact .inr ⟨decide_eq_false h9, by omega, by omega⟩)
   · exact hA
   · exact hB
   · exact hE
   · exact hJ
   · exact hR
   · exact hb46
   exact hb51
  clear hA hB hE hJ hR hb46 hb51
  rintro f110 w111 ⟨t, G112, hs113, ht, hA, hB, hE, hJ, hR, hb46, hb51⟩
  refine wcond (b := t) hs113 (fun hb114 => ?_) (fun hb114 => ?_)
  ·have hb114p := hb114
   have ht2 := (ht.resolve_right (fun h => by rw [h.1] at hb114; cases hb114)).2
   refine wseq ?_
   obtain ⟨b115, o116, c117, s122, A120, B121, x123, d124, hv118, hc119, hx125, lm126, ln127, hd128, lm129, ln130, eq131⟩ := hA.ix (i := 0) (0) oM oM
   have lo_hc119 := hA.lo oM hv118
   refine wdrawT (fun u => ∀ j v, [(iv ((a.getD (0) default).1)), (.bool s122), (sv A120), (sv B121)][j]? = some v → u.cell? ⟨b115, o116 + (0 : Int).toNat * 4 + j, none⟩ = some v) mixed fun w132 he133 => ?_
   replace hJ := hJk.1 _ _ _ hJ (Sm.ext he133)
   refine aM 0 rfl (v := va) ((G112 0 rfl).trans ((hF57 0).trans ((hF54 0).trans ((G42 0 rfl).trans ((hF26 0).trans hs22))))) ?_
   refine ra 1 rfl (fun _ => r_indexAddr (i := 0) uT22 ty55 hv118 rfl oM oM) ?_
   refine ra 2 rfl (fun _ => r_fieldAddr uT55 rfl ty3 rfl) ?_
   replace hc119 := cells_ext he133 hc119
   refine RA.rd 3 rfl kR rfl rfl rfl dC hc119 (fun u hu => r_load (v := (iv ((a.getD (0) default).1))) uT3 ag3 rfl (hu 0 _ rfl)) ?_
   refine aM 4 rfl (v := va) ((G112 0 rfl).trans ((hF57 0).trans ((hF54 0).trans ((G42 0 rfl).trans ((hF26 0).trans hs22))))) ?_
   refine ra 5 rfl (fun _ => r_indexAddr (i := 0) uT22 ty55 hv118 rfl oM oM) ?_
   refine ra 6 rfl (fun _ => r_fieldAddr uT55 rfl ty44 rfl) ?_
   refine RA.rd 7 rfl kR rfl rfl rfl dC hc119 (fun u hu => r_loada (cs := [(.bool s122), (sv A120), (sv B121)]) uT44 ag44 ty44 rfl (cdrop hu 1)) ?_
   refine aA 8 rfl (v := (iv ((a.getD (0) default).1))) rfl ?_
   refine RA.all [9] kR rfl ?_
   replace hb46 := hb46.ext he133
   refine RS.runs rfl rfl rfl (h_stA (cs := [(.bool s122), (sv A120), (sv B121)]) (o := 0) ty44 ((G112 9 rfl).trans ((hF57 9).trans (hF54 9))) rfl rfl rfl (one_cons rfl (one_cons hx125.one (one_cons hd128.one one_nil))) hb46 bL) ?_ RS.nil
   rintro w134 ⟨hn135, hx136, hz137⟩
   refine ⟨.inr (.inl kR), ?_⟩
   replace hE := (hE.nx he133).nb hx136 ge_b44
   have nb_hx136 := (Nb.of hb46 (nu_cons rfl (nu_cons rfl (nu_cons rfl nu_nil))))
   replace hJ := hJk.2 _ _ _ _ hJ hx136 nb_hx136 ge_b44
   replace hb46 : Bk w134 b44 44 [(.bool s122), (sv A120), (sv B121)] := hn135
   refine RA.done kR ?_
   refine wsr (mV (v := va) ((G112 0 rfl).trans ((hF57 0).trans ((hF54 0).trans ((G42 0 rfl).trans ((hF26 0).trans hs22))))) ?_)
   obtain ⟨A138, c139, hv140, hc141, hc142⟩ := hA.len
   replace hA := (hA.tr (Sm.ext he133)).tr (Sm.exc hx136 (fun _ _ _ _ hd => absurd hd.2 (Nat.not_lt_of_le ge_b44)))
   have r143 := hA.drop (1) oM hv140
   refine rV (r_sl (l := 1) (kk := 1) uT22 ty55 hv140 rfl oM oM) (aS (v := (.slice (if c139 = 1 then (A138 : Option Addr) else (A138 : Option Addr).map (·.add (1 * 4))) (a.length - 1) (c139 - 1))) rfl (RL.nil (wsr (mV (v := vb) ((G112 1 rfl).trans ((hF57 1).trans ((hF54 1).trans ((G42 1 rfl).trans ((hF26 1).trans hs23))))) ?_))))
   obtain ⟨A144, c145, hv146, hc147, hc148⟩ := hB.len
   refine rV (r_len uT22 hv146) (rV (r_gtr (k := .i64) (a := ((b.length : Nat) : Int)) (b := 0) rfl rfl) (mV (v := (bd (0 < ((b.length : Nat) : Int)))) rfl ?_))
   rcases bD (0 < ((b.length : Nat) : Int)) with ⟨hb149, hb149p⟩ | ⟨hb149, hb149p⟩
   ·refine RL.gval rfl rfl (bool_eq hb149) rfl dC (r_move_as (v := vb) ((G112 1 rfl).trans ((hF57 1).trans ((hF54 1).trans ((G42 1 rfl).trans ((hF26 1).trans hs23)))))) ?_
    replace hB := (hB.tr (Sm.ext he133)).tr (Sm.exc hx136 (fun _ _ _ _ hd => absurd hd.2 (Nat.not_lt_of_le ge_b44)))
    obtain ⟨b150, o151, c152, s157, A155, B156, x158, d159, hv153, hc154, hx160, lm161, ln162, hd163, lm164, ln165, eq166⟩ := hB.ix (i := 0) (0) oM oM
    refine RL.gval rfl rfl (bool_eq hb149) rfl dC (r_indexAddr (i := 0) uT22 ty55 hv153 rfl oM oM) ?_
    refine RL.gval rfl rfl (bool_eq hb149) rfl dC (r_fieldAddr uT55 rfl ty3 rfl) ?_
    refine RL.gval rfl rfl (bool_eq hb149) rfl dC (r_load (v := (iv ((b.getD (0) default).1))) uT3 ag3 rfl (hc154 0 _ rfl)) ?_
    refine RL.gval rfl rfl (bool_eq hb149) rfl dC (r_move_as (v := (iv ((a.getD (0) default).1))) rfl) ?_
    refine RL.gval rfl rfl (bool_eq hb149) rfl dC (r_eql (k := .i64) (a := (b.getD (0) default).1) (b := (a.getD (0) default).1) rfl rfl) ?_
    refine rV (r_pick_t (v := (bd (((b.getD (0) default).1) = ((a.getD (0) default).1)))) (bool_eq hb149) rfl) (RL.nil ?_)
    refine wcD (p := ((b.getD (0) default).1) = ((a.getD (0) default).1)) rfl (fun hb167 hb167p => ?_) (fun hb167 hb167p => ?_)
    ·refine wsr ?_
     refine mV (v := vb) ((G112 1 rfl).trans ((hF57 1).trans ((hF54 1).trans ((G42 1 rfl).trans ((hF26 1).trans hs23))))) ?_
     obtain ⟨b168, o169, c170, s175, A173, B174, x176, d177, hv171, hc172, hx178, lm179, ln180, hd181, lm182, ln183, eq184⟩ := hB.ix (i := 0) (0) oM oM
     refine rV (r_indexAddr (i := 0) uT22 ty55 hv171 rfl oM oM) (rV (r_fieldAddr uT55 rfl ty44 rfl) (rV (r_loada (cs := [(.bool s175), (sv A173), (sv B174)]) uT44 ag44 ty44 rfl (cdrop hc172 1)) ?_))
     replace hb51 := (hb51.ext he133).exc hx136 (Nat.ne_of_gt lt_b44_b49)
     refine RL.runs rfl rfl (h_stA (cs := [(.bool s175), (sv A173), (sv B174)]) (o := 0) ty44 ((G112 10 rfl).trans ((hF57 10).trans (hF54 10))) rfl rfl rfl (one_cons rfl (one_cons hx178.one (one_cons hd181.one one_nil))) hb51 bL) ?_
     rintro w185 ⟨hn186, hx187, hz188⟩
     replace hE := hE.nb hx187 ge_b49
     have nb_hx187 := (Nb.of hb51 (nu_cons rfl (nu_cons rfl (nu_cons rfl nu_nil))))
     replace hJ := hJk.2 _ _ _ _ hJ hx187 nb_hx187 ge_b49
     replace hb51 : Bk w185 b49 44 [(.bool s175), (sv A173), (sv B174)] := hn186
     refine RL.nil (wregion (mV (v := vb) ((G112 1 rfl).trans ((hF57 1).trans ((hF54 1).trans ((G42 1 rfl).trans ((hF26 1).trans hs23))))) ?_))
     replace hB := hB.tr (Sm.exc hx187 (fun _ _ _ _ hd => absurd hd.2 (Nat.not_lt_of_le ge_b49)))
     have r189 := hB.drop (1) oM hv146
     refine rV (r_sl (l := 1) (kk := 1) uT22 ty55 hv146 rfl oM oM) (aS (v := (.slice (if c145 = 1 then (A144 : Option Addr) else (A144 : Option Addr).map (·.add (1 * 4))) (b.length - 1) (c145 - 1))) rfl (RL.nil ?_))
     replace r143 := r143.tr (Sm.exc hx187 (fun _ _ _ _ hd => absurd hd.2 (Nat.not_lt_of_le ge_b49)))
     replace hb46 := hb46.exc hx187 (Nat.ne_of_lt lt_b44_b49)
     replace hx125 := ((hx125.tr (Sm.ext he133)).apn hx136 nb_hx136).apn hx187 nb_hx187
     replace hd128 := ((hd128.tr (Sm.ext he133)).apn hx136 nb_hx136).apn hx187 nb_hx187
     replace hx178 := hx178.apn hx187 nb_hx187
     replace hd181 := hd181.apn hx187 nb_hx187
     replace hR := ((hR.ext he133).exo hx136 on_vr_b44 nb_hx136).exo hx187 on_vr_b49 nb_hx187
     refine ⟨(a.getD (0) default).1, (a.getD (0) default).2, (b.getD (0) default).2, (a.drop (1)), (b.drop (1)), (.slice (if c139 = 1 then (A138 : Option Addr) else (A138 : Option Addr).map (·.add (1 * 4))) (a.length - 1) (c139 - 1)), (.slice (if c145 = 1 then (A144 : Option Addr) else (A144 : Option Addr).map (·.add (1 * 4))) (b.length - 1) (c145 - 1)), s122, (sv A120), (sv B121), x123, d124, s175, (sv A173), (sv B174), x176, d177, ?_, ?_, ?_, ?_, ?_, ?_, ?_, ?_, ?_, ?_, ?_, ?_, ?_, ?_, ?_, ?_, ?_, ?_, ?_, ?_, ?_, ?_, ?_, ?_, ?_, ?_⟩
     · exact (by repeat (first | exact G55 | refine Off.st ?_ dC _ | refine Off.via G112 dC ?_ | refine Off.eq hF57 ?_ | refine Off.via G42 dC ?_ | refine Off.eq hF26 ?_ | refine Off.via G21 dC ?_ | refine Off.eq hF18 ?_))
     · rfl
     · rfl
     · rfl
     · first | exact stp_eq oM oM oM | exact stp_l oM oM | exact stp_lt oM oM oM | exact stp_r oM oM
     · exact lm126
     · first | omega | simp
     · exact lm129
     · first | omega | simp
     · exact eq131
     · exact lm179
     · first | omega | simp
     · exact lm182
     · first | omega | simp
     · exact eq184
     · exact r143
     · exact r189
     · exact hb46
     · exact hx125
     · exact hd128
     · exact hb51
     · exact hx178
     · exact hd181
     · exact hE
     · exact hJ
     exact hR
    refine wskip ?_
    replace hx125 := (hx125.tr (Sm.ext he133)).apn hx136 nb_hx136
    replace hd128 := (hd128.tr (Sm.ext he133)).apn hx136 nb_hx136
    replace hb51 := (hb51.ext he133).exc hx136 (Nat.ne_of_gt lt_b44_b49)
    replace hR := (hR.ext he133).exo hx136 on_vr_b44 nb_hx136
    refine ⟨(a.getD (0) default).1, (a.getD (0) default).2, 0, (a.drop (1)), b, (.slice (if c139 = 1 then (A138 : Option Addr) else (A138 : Option Addr).map (·.add (1 * 4))) (a.length - 1) (c139 - 1)), vb, s122, (sv A120), (sv B121), x123, d124, false, (.slice none 0 0), (.slice none 0 0), [], [], ?_, ?_, ?_, ?_, ?_, ?_, ?_, ?_, ?_, ?_, ?_, ?_, ?_, ?_, ?_, ?_, ?_, ?_, ?_, ?_, ?_, ?_, ?_, ?_, ?_, ?_⟩
    · exact (by repeat (first | exact G55 | refine Off.st ?_ dC _ | refine Off.via G112 dC ?_ | refine Off.eq hF57 ?_ | refine Off.via G42 dC ?_ | refine Off.eq hF26 ?_ | refine Off.via G21 dC ?_ | refine Off.eq hF18 ?_))
    · rfl
    · rfl
    · refine (((G112 1 rfl).trans ((hF57 1).trans ((hF54 1).trans ((G42 1 rfl).trans ((hF26 1).trans hs23)))))).trans ?_
      rfl
    · first | exact stp_eq oM oM oM | exact stp_l oM oM | exact stp_lt oM oM oM | exact stp_r oM oM
    · exact lm126
    · first | omega | simp
    · exact lm129
    · first | omega | simp
    · exact eq131
    · exact Lm.nil
    · first | omega | simp
    · exact Lm.nil
    · first | omega | simp
    · exact rfl
    · exact r143
    · exact hB
    · exact hb46
    · exact hx125
    · exact hd128
    · exact hb51
    · exact Sg.nil
    · exact Sg.nil
    · exact hE
    · exact hJ
    exact hR
   refine RL.gno rfl rfl (bool_eq hb149) rfl dC ?_
   refine RL.gno rfl rfl (bool_eq hb149) rfl dC ?_
   refine RL.gno rfl rfl (bool_eq hb149) rfl dC ?_
   refine RL.gno rfl rfl (bool_eq hb149) rfl dC ?_
   refine RL.gno rfl rfl (bool_eq hb149) rfl dC ?_
   refine RL.gno rfl rfl (bool_eq hb149) rfl dC ?_
   refine rV (r_pick_f (v := (.bool false)) (bool_eq hb149) rfl) (RL.nil ?_)
   refine wcond_f rfl ?_
   refine wskip ?_
   replace hB := (hB.tr (Sm.ext he133)).tr (Sm.exc hx136 (fun _ _ _ _ hd => absurd hd.2 (Nat.not_lt_of_le ge_b44)))
   replace hx125 := (hx125.tr (Sm.ext he133)).apn hx136 nb_hx136
   replace hd128 := (hd128.tr (Sm.ext he133)).apn hx136 nb_hx136
   replace hb51 := (hb51.ext he133).exc hx136 (Nat.ne_of_gt lt_b44_b49)
   replace hR := (hR.ext he133).exo hx136 on_vr_b44 nb_hx136
   refine ⟨(a.getD (0) default).1, (a.getD (0) default).2, 0, (a.drop (1)), b, (.slice (if c139 = 1 then (A138 : Option Addr) else (A138 : Option Addr).map (·.add (1 * 4))) (a.length - 1) (c139 - 1)), vb, s122, (sv A120), (sv B121), x123, d124, false, (.slice none 0 0), (.slice none 0 0), [], [], ?_, ?_, ?_, ?_, ?_, ?_, ?_, ?_, ?_, ?_, ?_, ?_, ?_, ?_, ?_, ?_, ?_, ?_, ?_, ?_, ?_, ?_, ?_, ?_, ?_, ?_⟩
   · exact (by repeat (first | exact G55 | refine Off.st ?_ dC _ | refine Off.via G112 dC ?_ | refine Off.eq hF57 ?_ | refine Off.via G42 dC ?_ | refine Off.eq hF26 ?_ | refine Off.via G21 dC ?_ | refine Off.eq hF18 ?_))
   · rfl
   · rfl
   · refine (((G112 1 rfl).trans ((hF57 1).trans ((hF54 1).trans ((G42 1 rfl).trans ((hF26 1).trans hs23)))))).trans ?_
     rfl
   · first | exact stp_eq oM oM oM | exact stp_l oM oM | exact stp_lt oM oM oM | exact stp_r oM oM
   · exact lm126
   · first | omega | simp
   · exact lm129
   · first | omega | simp
   · exact eq131
   · exact Lm.nil
   · first | omega | simp
   · exact Lm.nil
   · first | omega | simp
   · exact rfl
   · exact r143
   · exact hB
   · exact hb46
   · exact hx125
   · exact hd128
   · exact hb51
   · exact Sg.nil
   · exact Sg.nil
   · exact hE
   · exact hJ
   exact hR
  have hb114p := hb114
  have ht2 := (ht.resolve_left (fun h => by rw [h.1] at hb114; cases hb114)).2
  refine wseq ?_
  obtain ⟨b190, o191, c192, s197, A195, B196, x198, d199, hv193, hc194, hx200, lm201, ln202, hd203, lm204, ln205, eq206⟩ := hB.ix (i := 0) (0) oM oM
  have lo_hc194 := hB.lo oM hv193
  refine wdrawT (fun u => ∀ j v, [(iv ((b.getD (0) default).1)), (.bool s197), (sv A195), (sv B196)][j]? = some v → u.cell? ⟨b190, o191 + (0 : Int).toNat * 4 + j, none⟩ = some v) mixed fun w207 he208 => ?_
  replace hJ := hJk.1 _ _ _ hJ (Sm.ext he208)
  refine aM 0 rfl (v := vb) ((G112 1 rfl).trans ((hF57 1).trans ((hF54 1).trans ((G42 1 rfl).trans ((hF26 1).trans hs23))))) ?_
  refine ra 1 rfl (fun _ => r_indexAddr (i := 0) uT22 ty55 hv193 rfl oM oM) ?_
  refine ra 2 rfl (fun _ => r_fieldAddr uT55 rfl ty3 rfl) ?_
  replace hc194 := cells_ext he208 hc194
  refine RA.rd 3 rfl kR rfl rfl rfl dC hc194 (fun u hu => r_load (v := (iv ((b.getD (0) default).1))) uT3 ag3 rfl (hu 0 _ rfl)) ?_
  refine aM 4 rfl (v := vb) ((G112 1 rfl).trans ((hF57 1).trans ((hF54 1).trans ((G42 1 rfl).trans ((hF26 1).trans hs23))))) ?_
  refine ra 5 rfl (fun _ => r_indexAddr (i := 0) uT22 ty55 hv193 rfl oM oM) ?_
  refine ra 6 rfl (fun _ => r_fieldAddr uT55 rfl ty44 rfl) ?_
  refine RA.rd 7 rfl kR rfl rfl rfl dC hc194 (fun u hu => r_loada (cs := [(.bool s197), (sv A195), (sv B196)]) uT44 ag44 ty44 rfl (cdrop hu 1)) ?_
  refine aA 8 rfl (v := (iv ((b.getD (0) default).1))) rfl ?_
  refine RA.all [9] kR rfl ?_
  replace hb51 := hb51.ext he208
  refine RS.runs rfl rfl rfl (h_stA (cs := [(.bool s197), (sv A195), (sv B196)]) (o := 0) ty44 ((G112 10 rfl).trans ((hF57 10).trans (hF54 10))) rfl rfl rfl (one_cons rfl (one_cons hx200.one (one_cons hd203.one one_nil))) hb51 bL) ?_ RS.nil
  rintro w209 ⟨hn210, hx211, hz212⟩
  refine ⟨.inr (.inl kR), ?_⟩
  replace hE := (hE.nx he208).nb hx211 ge_b49
  have nb_hx211 := (Nb.of hb51 (nu_cons rfl (nu_cons rfl (nu_cons rfl nu_nil))))
  replace hJ := hJk.2 _ _ _ _ hJ hx211 nb_hx211 ge_b49
  replace hb51 : Bk w209 b49 44 [(.bool s197), (sv A195), (sv B196)] := hn210
  refine RA.done kR ?_
  refine wregion (mV (v := vb) ((G112 1 rfl).trans ((hF57 1).trans ((hF54 1).trans ((G42 1 rfl).trans ((hF26 1).trans hs23))))) ?_)
  obtain ⟨A213, c214, hv215, hc216, hc217⟩ := hB.len
  replace hB := (hB.tr (Sm.ext he208)).tr (Sm.exc hx211 (fun _ _ _ _ hd => absurd hd.2 (Nat.not_lt_of_le ge_b49)))
  have r218 := hB.drop (1) oM hv215
  refine rV (r_sl (l := 1) (kk := 1) uT22 ty55 hv215 rfl oM oM) (aS (v := (.slice (if c214 = 1 then (A213 : Option Addr) else (A213 : Option Addr).map (·.add (1 * 4))) (b.length - 1) (c214 - 1))) rfl (RL.nil ?_))
  replace hA := (hA.tr (Sm.ext he208)).tr (Sm.exc hx211 (fun _ _ _ _ hd => absurd hd.2 (Nat.not_lt_of_le ge_b49)))
  replace hb46 := (hb46.ext he208).exc hx211 (Nat.ne_of_lt lt_b44_b49)
  replace hx200 := (hx200.tr (Sm.ext he208)).apn hx211 nb_hx211
  replace hd203 := (hd203.tr (Sm.ext he208)).apn hx211 nb_hx211
  replace hR := (hR.ext he208).exo hx211 on_vr_b49 nb_hx211
  refine ⟨(b.getD (0) default).1, 0, (b.getD (0) default).2, a, (b.drop (1)), va, (.slice (if c214 = 1 then (A213 : Option Addr) else (A213 : Option Addr).map (·.add (1 * 4))) (b.length - 1) (c214 - 1)), false, (.slice none 0 0), (.slice none 0 0), [], [], s197, (sv A195), (sv B196), x198, d199, ?_, ?_, ?_, ?_, ?_, ?_, ?_, ?_, ?_, ?_, ?_, ?_, ?_, ?_, ?_, ?_, ?_, ?_, ?_, ?_, ?_, ?_, ?_, ?_, ?_, ?_⟩
  · exact (by repeat (first | exact G55 | refine Off.st ?_ dC _ | refine Off.via G112 dC ?_ | refine Off.eq hF57 ?_ | refine Off.via G42 dC ?_ | refine Off.eq hF26 ?_ | refine Off.via G21 dC ?_ | refine Off.eq hF18 ?_))
  · rfl
  · refine (((G112 0 rfl).trans ((hF57 0).trans ((hF54 0).trans ((G42 0 rfl).trans ((hF26 0).trans hs22)))))).trans ?_
    rfl
  · rfl
  · first | exact stp_eq oM oM oM | exact stp_l oM oM | exact stp_lt oM oM oM | exact stp_r oM oM
  · exact Lm.nil
  · first | omega | simp
  · exact Lm.nil
  · first | omega | simp
  · exact rfl
  · exact lm201
  · first | omega | simp
  · exact lm204
  · first | omega | simp
  · exact eq206
  · exact hA
  · exact r218
  · exact hb46
  · exact Sg.nil
  · exact Sg.nil
  · exact hb51
  · exact hx200
  · exact hd203
  · exact hE
  · exact hJ
  exact hR
 clear hA hB hE hJ hR hb46 hb51
 rintro f219 w220 ⟨i, p, q, a2, b2, va2, vb2, s1, v1, u1, x1, d1, s2, v2, u2, x2, d2, G221, hs222, hs223, hs224, hstp, lmx1, lnx1, lmd1, lnd1, eq1, lmx2, lnx2, lmd2, lnd2, eq2, hA2, hB2, hb46, hx1, hd1, hb51, hx2, hd2, hE, hJ, hR⟩
 refine wsr (mV (v := (.func (.func kc) #[] cl.toArray)) ((G221 2 rfl).trans ((hF54 2).trans ((G42 2 rfl).trans ((hF26 2).trans ((G21 2 rfl).trans ((hF18 2).trans (hF0 2))))))) ?_)
 have hc225 := hb46.cells (o := 0) (cs := [(.bool s1), v1, u1]) rfl
 refine rV (r_loada (o := 0) (cs := [(.bool s1), v1, u1]) uT44 ag44 ty44 ((G221 9 rfl).trans (hF54 9)) hc225) ?_
 have hc226 := hb51.cells (o := 0) (cs := [(.bool s2), v2, u2]) rfl
 refine rV (r_loada (o := 0) (cs := [(.bool s2), v2, u2]) uT44 ag44 ty44 ((G221 10 rfl).trans (hF54 10)) hc226) ?_
 refine RL.call rfl rfl dC (r_callv (vl := [(.agg #[(.bool s1), v1, u1]), (.agg #[(.bool s2), v2, u2])]) (cl := cl) rfl hent rfl) (hop oM hJ hx1 lmx1 oS hd1 lmd1 oS (show ratOf s1 (val x1) (val d1) = p from eq1) hx2 lmx2 oS hd2 lmd2 oS (show ratOf s2 (val x2) (val d2) = q from eq2)) ?_
 rintro _ w227 ⟨⟨s', vn, vd, xn, xd, rfl, hn, lmn, lnn, hd, lmd, lnd, heq, hcan⟩, hJ2, hg228⟩
 replace hn : Sg (gN .u32) (fun b T => w.heap.size ≤ b ∧ T = 89) w227 vn xn := hn.mono (fun _ _ h => ⟨Nat.le_trans hE.size h.1, h.2⟩)
 replace hd : Sg (gN .u32) (fun b T => w.heap.size ≤ b ∧ T = 89) w227 vd xd := hd.mono (fun _ _ h => ⟨Nat.le_trans hE.size h.1, h.2⟩)
 replace hE := hE.trans hg228
 replace hJ := hJ2
 refine rU (h_alloc (cs := [(.bool false), (.slice none 0 0), (.slice none 0 0)]) ty44 rfl) ?_
 rintro _ w229 ⟨b230, rfl, hs233, hb232, he231⟩
 replace hb51 := hb51.oo hg228 hobl ge_b49
 have lt_b49_b230 := Nat.lt_of_lt_of_eq hb51.lt hs233.symm
 have ge_b230 := hE.ge hs233
 replace hR := hR.oo hg228 hobl hobF
 have on_vr_b230 : vr.ownBlock ≠ some b230 := fun h => absurd (hR.lt _ h) (by rw [hs233]; exact Nat.lt_irrefl _)
 replace hJ := hJk.1 _ _ _ hJ (Sm.ext he231)
 refine RL.runs rfl rfl (h_stA (cs := [(.bool (s')), vn, vd]) (o := 0) ty44 rfl rfl rfl rfl (one_cons rfl (one_cons hn.one (one_cons hd.one one_nil))) hb232 bL) ?_
 rintro w234 ⟨hn235, hx236, hz237⟩
 have nb_hx236 := (Nb.of hb232 (nu_cons rfl (nu_cons rfl (nu_cons rfl nu_nil))))
 replace hJ := hJk.2 _ _ _ _ hJ hx236 nb_hx236 ge_b230
 replace hb232 : Bk w234 b230 44 [(.bool (s')), vn, vd] := hn235
 refine RL.nil (wsr ?_)
 have hc238 := hb232.cells (o := 0) (cs := [(.bool (s')), vn, vd]) rfl
 refine rV (r_loada (o := 0) (cs := [(.bool (s')), vn, vd]) uT44 ag44 ty44 rfl hc238) ?_
 replace hn := (hn.tr (Sm.ext he231)).apn hx236 nb_hx236
 replace hd := (hd.tr (Sm.ext he231)).apn hx236 nb_hx236
 refine RL.call rfl rfl dC (r_call (vl := [(.agg #[(.bool (s')), vn, vd])]) ent37 rfl) (q_sign hn lmn oS hd lmd oS (show ratOf s' (val xn) (val xd) = op p q from heq)) ?_
 rintro _ w239 ⟨rfl, he240⟩
 replace hE := ((hE.nx he231).nb hx236 ge_b230).nx he240
 replace hJ := hJk.1 _ _ _ hJ (Sm.ext he240)
 refine rV (r_neq (k := .i64) (a := Int.sign (op p q).num) (b := 0) rfl rfl) (RL.nil ?_)
 refine wcD (p := (Int.sign (op p q).num) ≠ 0) rfl (fun hb241 hb241p => ?_) (fun hb241 hb241p => ?_)
 ·have hnz : op p q ≠ 0 := fun h => hb241p ((sign_eq _).2 h)
  have hcn := hcan hnz
  refine wregion (mV (v := vr) ((G221 7 rfl).trans ((hF54 7).trans ((G42 7 rfl).trans ((hF26 7).trans hs24)))) (mV hs222 ?_))
  replace hb232 := hb232.ext he240
  have hc242 := hb232.cells (o := 0) (cs := [(.bool (s')), vn, vd]) rfl
  refine rV (r_loada (o := 0) (cs := [(.bool (s')), vn, vd]) uT44 ag44 ty44 rfl hc242) (rV (r_build (vl := [(0, (iv i)), (1, (.agg #[(.bool (s')), vn, vd]))]) (cs := [(iv i), (.bool (s')), vn, vd]) uT55 ty55 rfl (pl55 uT55) rfl) ?_)
  refine rU (h_lit (vl := [(0, (.agg #[(iv i), (.bool (s')), vn, vd]))]) (cs := [(iv i), (.bool (s')), vn, vd]) uT22 ty55 rfl dC (by first | (simp [Instr.fill, Value.cells]; done) | rfl | kernel_rfl)) ?_
  rintro _ w243 ⟨b244, rfl, hs247, hb246, he245⟩
  have lt_b230_b244 := Nat.lt_of_lt_of_eq hb232.lt hs247.symm
  have ge_b244 := hE.ge hs247
  replace hR := ((hR.ext he231).exo hx236 on_vr_b230 nb_hx236).ext he240
  replace hE := hE.nx he245
  replace hJ := hJk.1 _ _ _ hJ (Sm.ext he245)
  replace hn := hn.tr (Sm.ext (Ext.trans he240 he245))
  replace hd := hd.tr (Sm.ext (Ext.trans he240 he245))
  have hrk : Rk L2 (fun b T => w.heap.size ≤ b ∧ T = 89) w243 (s', vn, vd) (op p q) := ⟨hcn.1, by rw [← hcn.2.1]; exact hn, by rw [← hcn.2.2]; exact hd, by rw [← hcn.2.1]; exact lnn, by rw [← hcn.2.2]; exact lnd⟩
  replace hR := hR.ext he245
  refine rU (h_appendE (v1 := vr) (v2 := (.slice (some ⟨b244, 0, none⟩) (1) (1))) (q := op p q) uT22 ty55 rfl rfl rfl hR (hb246.sc (D := fun _ _ => True) trivial rfl dC) hrk (fun _ h => absurd h.2 dC) (by simp only [maxLen]; omega) oM hE.size) ?_
  rintro v249 w248 ⟨ho250, hg251⟩
  replace hE := hR.gbe hg251 hE hlo hE.size
  replace hJ := hJk.1 _ _ _ hJ (hR.gsm hg251 (fun b hb hd => hd.elim (fun h => absurd h (Nat.not_lt_of_le hb)) dC))
  refine aS (v := v249) rfl (RL.nil ?_)
  replace hA2 := ((((hA2.tr (Gro.sm hg228 hobD)).tr (Sm.ext he231)).tr (Sm.exc hx236 (fun _ _ _ _ hd => absurd hd.2 (Nat.not_lt_of_le ge_b230)))).tr (Sm.ext (Ext.trans he240 he245))).tr (hR.gsm hg251 (fun b hb hd => absurd hd.2 (Nat.not_lt_of_le (Nat.le_trans hlo hb))))
  replace hB2 := ((((hB2.tr (Gro.sm hg228 hobD)).tr (Sm.ext he231)).tr (Sm.exc hx236 (fun _ _ _ _ hd => absurd hd.2 (Nat.not_lt_of_le ge_b230)))).tr (Sm.ext (Ext.trans he240 he245))).tr (hR.gsm hg251 (fun b hb hd => absurd hd.2 (Nat.not_lt_of_le (Nat.le_trans hlo hb))))
  refine ⟨(a2, b2, (rs ++ [(i, op p q)]), ps ++ [(p, q)], va2, vb2, v249), ⟨?_, ?_, ?_, ?_, ?_, ?_, ?_, ?_, ?_, ?_, ?_, ?_, ?_⟩, ?_⟩
  · exact (by repeat (first | exact G21 | refine Off.st ?_ dC _ | refine Off.via G221 dC ?_ | refine Off.eq hF54 ?_ | refine Off.via G42 dC ?_ | refine Off.eq hF26 ?_))
  · refine (hs223).trans ?_
    first | rfl | exact int_eq oM | exact bool_eq (by simp)
  · refine (hs224).trans ?_
    first | rfl | exact int_eq oM | exact bool_eq (by simp)
  · first | rfl | exact int_eq oM | exact bool_eq (by simp)
  · obtain ⟨_, _, e9, _⟩ := ho250.ap (by simp); rw [e9]; simp [Value.ownBlock]
  · exact (hM.step hstp).2 hnz
  · rw [List.length_append, List.length_singleton]; have := stp_len hstp; omega
  · rw [List.length_append, List.length_singleton]; have := stp_len hstp; omega
  · exact hA2
  · exact hB2
  · exact ho250
  · exact hJ
  · exact hE
  (try dsimp only)
  have := stp_len hstp
  omega
 have hz : op p q = 0 := (sign_eq _).1 (by simpa using hb241p)
 refine wskip ?_
 replace hA2 := (((hA2.tr (Gro.sm hg228 hobD)).tr (Sm.ext he231)).tr (Sm.exc hx236 (fun _ _ _ _ hd => absurd hd.2 (Nat.not_lt_of_le ge_b230)))).tr (Sm.ext he240)
 replace hB2 := (((hB2.tr (Gro.sm hg228 hobD)).tr (Sm.ext he231)).tr (Sm.exc hx236 (fun _ _ _ _ hd => absurd hd.2 (Nat.not_lt_of_le ge_b230)))).tr (Sm.ext he240)
 replace hR := ((hR.ext he231).exo hx236 on_vr_b230 nb_hx236).ext he240
 refine ⟨(a2, b2, rs, ps ++ [(p, q)], va2, vb2, vr), ⟨?_, ?_, ?_, ?_, ?_, ?_, ?_, ?_, ?_, ?_, ?_, ?_, ?_⟩, ?_⟩
 · exact (by repeat (first | exact G21 | refine Off.st ?_ dC _ | refine Off.via G221 dC ?_ | refine Off.eq hF54 ?_ | refine Off.via G42 dC ?_ | refine Off.eq hF26 ?_))
 · refine (hs223).trans ?_
   first | rfl | exact int_eq oM | exact bool_eq (by simp)
 · refine (hs224).trans ?_
   first | rfl | exact int_eq oM | exact bool_eq (by simp)
 · refine (((G221 7 rfl).trans ((hF54 7).trans ((G42 7 rfl).trans ((hF26 7).trans hs24))))).trans ?_
   first | rfl | exact int_eq oM | exact bool_eq (by simp)
 · exact hnn
 · exact (hM.step hstp).1 hz
 · rw [List.length_append, List.length_singleton]; have := stp_len hstp; omega
 · have := stp_len hstp; omega
 · exact hA2
 · exact hB2
 · exact hR
 · exact hJ
 · exact hE
 (try dsimp only)
 have := stp_len hstp
 omega
end Go.Proofs.YtelbjmhhbeijkaaGreat
namespace Go.Proofs.YtelbjmhhbeijkaaGreat
open Go.Vg Go.RowKit _root_.Go.Proofs.Tryz
set_option linter.unusedVariables false
open Go.Vm
theorem j_true {TU B : Nat} : JOk TU B (fun _ _ => True) := ⟨fun _ _ _ _ _ => trivial, fun _ _ _ _ _ _ _ _ => trivial⟩
set_option maxHeartbeats 1000000 in
theorem v_norm1 {w : World} {sx : Bool} {Dx Ex : Nat → TypeId → Prop} {vx ux : Value} {x dx : List Nat} (hx : Sg (gN .u32) Dx w vx x) (lmx : Lm x) (lnx : x.length ≤ 17179869184) (hdx : Sg (gN .u32) Ex w ux dx) (lmdx : Lm dx) (lndx : dx.length ≤ 17179869184) {qx : Rat} (ex : ratOf sx (val x) (val dx) = qx) {sy : Bool} {Dy Ey : Nat → TypeId → Prop} {vy uy : Value} {y dy : List Nat} (hy : Sg (gN .u32) Dy w vy y) (lmy : Lm y) (lny : y.length ≤ 17179869184) (hdy : Sg (gN .u32) Ey w uy dy) (lmdy : Lm dy) (lndy : dy.length ≤ 17179869184) {qy : Rat} (ey : ratOf sy (val y) (val dy) = qy) :
    Calls Tryz.prog 49 #[(.agg #[(.bool sx), vx, ux]), (.agg #[(.bool sy), vy, uy])] w fun e w' => ∃ v, e = .returned v ∧ (∃ vn vd, v = .agg #[.bool (decide (qx.num < 0)), vn, vd] ∧ Sg (gN .u32) (fun b T => w.heap.size ≤ b ∧ T = 89) w' vn (digs qx.num.natAbs) ∧ Sg (gN .u32) (fun b T => w.heap.size ≤ b ∧ T = 89) w' vd (digs qx.den) ∧ (digs qx.num.natAbs).length ≤ x.length ∧ (digs qx.den).length ≤ dx.length + 1) ∧ Ext w w' := by
 have hE : Below w.heap.size w w := Below.refl _ _
 have hlqx := rl_of lmx lmdx ex
 have hdqx := den_one qx
 have hlqy := rl_of lmy lmdy ey
 have hdqy := den_one qy
 refine calls_of (n := 7) (rs := [.cell 4 44]) func49 rfl rfl rfl bL ?_
 refine wset fun F0 hF0 => ?_
 refine wsr ?_
 refine rU (h_bxA (cs := [(.bool sx), vx, ux]) (hF0 0) rfl) ?_
 rintro _ w1 ⟨b2, rfl, hs5, hb4, he3⟩
 have ge_b2 := hE.ge hs5
 replace hE := hE.nx he3
 refine rU (h_bxA (cs := [(.bool sy), vy, uy]) (hF0 1) rfl) ?_
 rintro _ w6 ⟨b7, rfl, hs10, hb9, he8⟩
 have lt_b2_b7 := Nat.lt_of_lt_of_eq hb4.lt hs10.symm
 have ge_b7 := hE.ge hs10
 replace hE := hE.nx he8
 refine rU (h_alloc (cs := [(.bool false), (.slice none 0 0), (.slice none 0 0)]) ty44 rfl) ?_
 rintro _ w11 ⟨b12, rfl, hs15, hb14, he13⟩
 have lt_b7_b12 := Nat.lt_of_lt_of_eq hb9.lt hs15.symm
 have ge_b12 := hE.ge hs15
 replace hE := hE.nx he13
 refine RL.nil (wsr ?_)
 replace hb4 := hb4.ext (Ext.trans he8 he13)
 have hc16 := hb4.cells (o := 0) (cs := [(.bool sx), vx, ux]) rfl
 refine rV (r_loada (o := 0) (cs := [(.bool sx), vx, ux]) uT44 ag44 ty44 rfl hc16) ?_
 have hm25 := Ext.trans he3 (Ext.trans he8 he13)
 replace hx := hx.tr (Sm.ext hm25)
 replace hdx := hdx.tr (Sm.ext hm25)
 refine RL.call rfl rfl dC (r_call (vl := [(.agg #[(.bool sx), vx, ux])]) ent38 rfl) (q_norm hx (by assumption) oS hdx (by assumption) oS (show ratOf sx (val x) (val dx) = qx from ex)) ?_
 rintro _ w17 ⟨⟨vn19, vd21, rfl, hn20, hd22, hl23, hl24⟩, he18⟩
 have hlv26 := den_one qx
 replace hn20 := hn20.fr hE
 replace hd22 := hd22.fr hE
 replace hb14 := hb14.ext he18
 refine RL.runs rfl rfl (h_stA (cs := [(bd (qx.num < 0)), vn19, vd21]) (o := 0) ty44 rfl rfl rfl rfl (one_cons rfl (one_cons hn20.one (one_cons hd22.one one_nil))) hb14 bL) ?_
 rintro w27 ⟨hn28, hx29, hz30⟩
 replace hE := (hE.nx he18).nb hx29 ge_b12
 have nb_hx29 := (Nb.of hb14 (nu_cons rfl (nu_cons rfl (nu_cons rfl nu_nil))))
 replace hb14 : Bk w27 b12 44 [(bd (qx.num < 0)), vn19, vd21] := hn28
 refine RL.nil ?_
 refine wret ?_
 refine ⟨[(.agg #[(bd (qx.num < 0)), vn19, vd21])], ⟨⟨_, _, [(bd (qx.num < 0)), vn19, vd21], rfl, ⟨_, uT44⟩, hb14.cells rfl, .inl ⟨ag44, ⟨_, _, ty44⟩, rfl⟩⟩, trivial⟩, ?_⟩
 replace hn20 := hn20.apn hx29 nb_hx29
 replace hd22 := hd22.apn hx29 nb_hx29
 exact ⟨⟨_, _, rfl, hn20, hd22, by omega, by omega⟩, hE⟩
theorem op_norm {K L : Nat} (hL : L ≤ 8589934000) : OpOk Tryz.prog 49 [] none K L (L + 1) (fun p _ => p) (fun _ _ => True) := fun _ _ h1 m1 l1 g1 n1 k1 e1 h2 m2 l2 g2 n2 k2 e2 =>
  (v_norm1 h1 m1 oM g1 n1 oM e1 h2 m2 oM g2 n2 oM e2).mono fun _ _ ⟨v, he, ⟨vn, vd, hv, a, b, c, d⟩, hE⟩ =>
    ⟨v, he, ⟨_, vn, vd, _, _, hv, a, digs_lm _, by omega, b, digs_lm _, by omega, ratOf_canon _, fun _ => ⟨rfl, rfl, rfl⟩⟩, trivial, Gro.of_ext hE⟩
end Go.Proofs.YtelbjmhhbeijkaaGreat
