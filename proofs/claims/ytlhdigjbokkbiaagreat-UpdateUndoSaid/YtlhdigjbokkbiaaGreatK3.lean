/- For every input the law UpdateUndo returns true, and what came in reads as it did. Part 3 of 7: Qb Qc Mvec Vya Vyb Vyc Vyd Vye Vyf. -/
import Derived.Laws.StructEq
import Derived.Test.YtlhdigjbokkbiaaGreatK2
set_option maxHeartbeats 4000000
set_option linter.unusedVariables false
set_option linter.unusedSimpArgs false
namespace Go.Proofs.YtlhdigjbokkbiaaGreat.W
open Go.Vg Go.RowKit _root_.Go.Proofs.Tryz
open Go.Vm
theorem aGk {a b:Int} {p q:Rat} (h1:a<b↔p<q) (h2:b<a↔q<p):cmpI a b=cmpQ p q:=by
 unfold cmpI cmpQ
 simp only[h1,h2]
theorem sJ (q:Rat):0<q.num↔0<q:=by
 have h1:=mX q
 have h2:=Rat.num_eq_zero (q:=q)
 constructor
 ·intro h
  have a1:¬q<0:=λh3=>by have:=h1.2 h3;omega
  have a2:q≠0:=λh3=>by have:=h2.2 h3;omega
  grind
 intro h
 have a1:¬q.num<0:=λh3=>by have:=h1.1 h3;grind
 have a2:q.num≠0:=λh3=>by have:=h2.1 h3;grind
 omega
theorem wX {p q:Rat} (h:Int.sign p.num<Int.sign q.num):p<q:=by
 have a1:=mX p
 have a2:=sJ q
 have b1:=sJ p
 have b2:=mX q
 rcases Int.lt_trichotomy p.num 0 with h1|h1|h1<;>rcases Int.lt_trichotomy q.num 0 with h2|h2|h2<;>simp[h1,h2,Int.sign_eq_neg_one_of_neg,Int.sign_eq_one_of_pos] at h
 ·have c1:=a1.1 h1
  have c2:=Rat.num_eq_zero.1 h2
  rw[c2];exact c1
 ·have c1:=a1.1 h1
  have c2:=a2.1 h2
  grind
 have c1:=Rat.num_eq_zero.1 h1
 have c2:=a2.1 h2
 rw[c1];exact c2
theorem aJg {p q:Rat} (h:Int.sign p.num≠Int.sign q.num):cmpI (Int.sign p.num) (Int.sign q.num)=cmpQ p q:=by
 rcases Int.lt_or_gt_of_ne h with h1|h1
 ·have h2:=wX h1
  unfold cmpI cmpQ
  rw[if_pos h1,if_pos h2]
 have h2:=wX h1
 unfold cmpI cmpQ
 rw[if_neg oM,if_pos h1,if_neg (by grind),if_pos h2]
theorem q_norm {w:World} {sx:Bool} {Dx Ex:Nat->TypeId->Prop} {vx ux:Value} {x dx:List Nat} (hx:Sg (gN .u32) Dx w vx x) (lmx:Lm x) (lnx:x.length<=17179869184) (hdx:Sg (gN .u32) Ex w ux dx) (lmdx:Lm dx) (lndx:dx.length<=17179869184) {qx:Rat} (ex:dE sx (val x) (val dx)=qx):
 Calls Tryz.prog 67 #[(.agg #[(.bool sx),vx,ux])] w λe w'=>∃v,e= .returned v∧(∃vn vd,v= .agg #[.bool (decide (qx.num<0)),vn,vd]∧Sg (gN .u32) (λb T=>w.heap.size<=b∧T=131) w' vn (aB qx.num.natAbs)∧Sg (gN .u32) (λb T=>w.heap.size<=b∧T=131) w' vd (aB qx.den)∧(aB qx.num.natAbs).length<=x.length∧(aB qx.den).length<=dx.length+1)∧Ext w w':=by
 have hE:Below w.heap.size w w:=Below.refl _ _
 have hlqx:=oP lmx lmdx ex
 have hdqx:=dS qx
 refine bH (n:=21) (rs:=[.cell 2 51]) func67 rfl rfl rfl bL ?_
 refine cV λF0 hF0=>?_
 refine wsr ?_
 refine rU (fZ (vv:=(.agg #[(.bool sx),vx,ux])) (cs:=[(.bool sx),vx,ux]) (hF0 0) rfl) ?_
 rintro _ w1 ⟨b2,rfl,hs5,hb4,he3⟩
 have ge_b2:=hE.ge hs5
 replace hE:=hE.nx he3
 refine rU (cZ (cs:=[(.bool false),(.slice none 0 0),(.slice none 0 0)]) dF rfl) ?_
 rintro _ w6 ⟨b7,rfl,hs10,hb9,he8⟩
 have lt_b2_b7:=Nat.lt_of_lt_of_eq hb4.lt hs10.symm
 have ge_b7:=hE.ge hs10
 replace hE:=hE.nx he8
 refine RL.nil (bB (wsr ?_))
 replace hb4:=hb4.ext he8
 have hc11:=hb4.cells (o:=0) (cs:=[(.bool sx),vx,ux]) rfl
 refine rV (bX (o:=0) (cs:=[(.bool sx),vx,ux]) dT fH dF rfl hc11) ?_
 replace hx:=hx.tr (Sm.ext (Ext.trans he3 he8))
 replace hdx:=hdx.tr (Sm.ext (Ext.trans he3 he8))
 refine RL.call rfl rfl dC (bO (vl:=[(.agg #[(.bool sx),vx,ux])]) uE rfl) (lW hx (by assumption) oS hdx (by assumption) oS (show dE sx (val x) (val dx)=qx from ex)) ?_
 rintro _ w12 ⟨⟨nX,dX,okX,rfl,hsX⟩,he13⟩
 replace hE:=hE.nx he13
 refine mV (v:=(.tuple #[(iv nX),(iv dX),(.bool okX)])) rfl (rV (aI (v:=(iv nX)) rfl rfl) (rV (aI (v:=(iv dX)) rfl rfl) (rV (aI (v:=(.bool okX)) rfl rfl) (aS (v:=(iv nX)) rfl (aS (v:=(iv dX)) rfl ?_)))))
 refine aS (v:=(.bool okX)) rfl (RL.nil (wsr (mV (v:=(.bool okX)) rfl (RL.nil ?_))))
 refine kO (b:=okX) rfl (λhb14=>?_) (λhb14=>?_)
 ·have hb14p:=hb14
  have hok:okX=true:=hb14
  have hs1:=hsX hb14
  refine wsr (mV (v:=(iv nX)) rfl (mV (v:=(iv dX)) rfl ?_))
  refine cL aKx (aCy oM oM) rfl ?_
  rintro _ w15 ⟨⟨vn17,vd19,rfl,hn18,hd20,hl21,hl22⟩,he16⟩
  have hlv23:=dS (Rat.divInt nX dX)
  replace hn18:=hn18.fr hE
  replace hd20:=hd20.fr hE
  replace hE:=hE.nx he16
  replace hb9:=hb9.ext (Ext.trans he13 he16)
  refine RL.runs rfl rfl (bQ (vv:=(.agg #[(bd ((Rat.divInt nX dX).num<0)),vn17,vd19])) (cs:=[(bd ((Rat.divInt nX dX).num<0)),vn17,vd19]) (o:=0) dF rfl rfl rfl rfl (aF rfl (aF hn18.one (aF hd20.one bU))) hb9 bL) ?_
  rintro w24 ⟨hn25,hx26,hz27⟩
  replace hE:=hE.nb hx26 ge_b7
  have nb_hx26:=(Nb.of hb9 (aH rfl (aH rfl (aH rfl cG))))
  replace hb9:Bk w24 b7 51 [(bd ((Rat.divInt nX dX).num<0)),vn17,vd19]:=hn25
  refine RL.nil ?_
  refine cE ?_
  refine⟨[(.agg #[(bd ((Rat.divInt nX dX).num<0)),vn17,vd19])],⟨⟨_,_,[(bd ((Rat.divInt nX dX).num<0)),vn17,vd19],rfl,⟨_,dT⟩,hb9.cells rfl,.inl ⟨fH,⟨_,_,dF⟩,rfl⟩⟩,trivial⟩,?_⟩
  have hq:(Rat.divInt nX dX)=qx:=by first|exact(hsX hok).2.2.2.2|exact eqX
  replace hn18:=hn18.apn hx26 nb_hx26
  replace hd20:=hd20.apn hx26 nb_hx26
  exact⟨⟨_,_,pT (congrArg (λz:Rat=>decide (z.num<0)) hq),by rw[<-hq];exact hn18,by rw[<-hq];exact hd20,by omega,by omega⟩,hE⟩
 have hb14p:=hb14
 refine bW ?_
 refine wsr ?_
 replace hb4:=hb4.ext he13
 have hc28:=hb4.cells (o:=0) (cs:=[(.bool sx),vx,ux]) rfl
 refine rV (bX (o:=0) (cs:=[(.bool sx),vx,ux]) dT fH dF rfl hc28) ?_
 replace hx:=hx.tr (Sm.ext he13)
 replace hdx:=hdx.tr (Sm.ext he13)
 refine RL.call rfl rfl dC (bO (vl:=[(.agg #[(.bool sx),vx,ux])]) sF rfl) (kA hx (by assumption) oS hdx (by assumption) oS (show dE sx (val x) (val dx)=qx from ex)) ?_
 rintro _ w29 ⟨⟨sX,vnX,vdX,xnX,xdX,rfl,hnX,lmnX,lnnX,hdX,lmdX,lndX,nzX,eqX⟩,he30⟩
 replace hE:=hE.nx he30
 refine rV (aI (v:=(.agg #[(.bool sX),vnX])) rfl rfl) (rV (aI (v:=vdX) rfl rfl) ?_)
 refine RL.call rfl rfl dC (bO (vl:=[(.agg #[(.bool sX),vnX]),vdX]) aGd rfl) (pU hnX lmnX oS rfl hdX lmdX oS (by first|assumption|exact hnz)) ?_
 rintro vv39 w31 ⟨⟨vn33,vd35,hv40,hn34,hd36,hl37,hl38⟩,he32⟩
 subst hv40
 have hlv41:=dS (Rat.divInt (sg sX (val xnX)) (((val xdX):Nat):Int))
 replace hn34:=hn34.fr hE
 replace hd36:=hd36.fr hE
 replace hE:=hE.nx he32
 have hm46:=Ext.trans he13 (Ext.trans he30 he32)
 replace hb9:=hb9.ext hm46
 refine RL.runs rfl rfl (bQ (vv:=(.agg #[(bd ((Rat.divInt (sg sX (val xnX)) (((val xdX):Nat):Int)).num<0)),vn33,vd35])) (cs:=[(bd ((Rat.divInt (sg sX (val xnX)) (((val xdX):Nat):Int)).num<0)),vn33,vd35]) (o:=0) dF rfl rfl rfl rfl (aF rfl (aF hn34.one (aF hd36.one bU))) hb9 bL) ?_
 rintro w42 ⟨hn43,hx44,hz45⟩
 replace hE:=hE.nb hx44 ge_b7
 have nb_hx44:=(Nb.of hb9 (aH rfl (aH rfl (aH rfl cG))))
 replace hb9:Bk w42 b7 51 [(bd ((Rat.divInt (sg sX (val xnX)) (((val xdX):Nat):Int)).num<0)),vn33,vd35]:=hn43
 refine RL.nil ?_
 refine cE ?_
 refine⟨[(.agg #[(bd ((Rat.divInt (sg sX (val xnX)) (((val xdX):Nat):Int)).num<0)),vn33,vd35])],⟨⟨_,_,[(bd ((Rat.divInt (sg sX (val xnX)) (((val xdX):Nat):Int)).num<0)),vn33,vd35],rfl,⟨_,dT⟩,hb9.cells rfl,.inl ⟨fH,⟨_,_,dF⟩,rfl⟩⟩,trivial⟩,?_⟩
 have hq:(Rat.divInt (sg sX (val xnX)) (((val xdX):Nat):Int))=qx:=by first|exact(hsX hok).2.2.2.2|exact eqX
 replace hn34:=hn34.apn hx44 nb_hx44
 replace hd36:=hd36.apn hx44 nb_hx44
 exact⟨⟨_,_,pT (congrArg (λz:Rat=>decide (z.num<0)) hq),by rw[<-hq];exact hn34,by rw[<-hq];exact hd36,by omega,by omega⟩,hE⟩
theorem q_from {w:World} {k:Int} (hk:-9223372036854775808<=k∧k<=9223372036854775807):
 Calls Tryz.prog 64 #[(iv k)] w λe w'=>∃v,e= .returned v∧(∃vn vd,v= .agg #[.bool (decide (((k:Int):Rat).num<0)),vn,vd]∧Sg (gN .u32) (λb T=>w.heap.size<=b∧T=131) w' vn (aB ((k:Int):Rat).num.natAbs)∧Sg (gN .u32) (λb T=>w.heap.size<=b∧T=131) w' vd (aB ((k:Int):Rat).den)∧(aB ((k:Int):Rat).num.natAbs).length<=2∧(aB ((k:Int):Rat).den).length<=1)∧Ext w w':=by
 have hE:Below w.heap.size w w:=Below.refl _ _
 refine bH (n:=7) (rs:=[.cell 2 51]) func64 rfl rfl rfl bL ?_
 refine cV λF0 hF0=>?_
 refine wsr ?_
 refine rU (cZ (cs:=[(.bool false),(.slice none 0 0),(.slice none 0 0)]) dF rfl) ?_
 rintro _ w1 ⟨b2,rfl,hs5,hb4,he3⟩
 have ge_b2:=hE.ge hs5
 replace hE:=hE.nx he3
 refine RL.nil (wsr (mV (v:=(iv k)) (hF0 0) ?_))
 refine cL aZm (bAe oM) rfl ?_
 rintro _ w6 ⟨⟨vr8,rfl,hr9,hl10⟩,he7⟩
 replace hr9:=hr9.fr hE
 replace hE:=hE.nx he7
 refine rU (aAg (vl:=[(0,(.int .u32 1))]) (cs:=[(.int .u32 1)]) bE bM rfl dC (by first|(simp[Instr.fill,Value.cells];done)|rfl|kernel_rfl)) ?_
 rintro _ w11 ⟨b12,rfl,hs15,hb14,he13⟩
 replace hb4:=hb4.ext he7
 have lt_b2_b12:=Nat.lt_of_lt_of_eq hb4.lt hs15.symm
 have ge_b12:=hE.ge hs15
 replace hE:=hE.nx he13
 refine rV (eR (vl:=[(0,(.agg #[(bd (k<0)),vr8])),(1,(.slice (some ⟨b12,0,none⟩) (1) (1)))]) (cs:=[(bd (k<0)),vr8,(.slice (some ⟨b12,0,none⟩) (1) (1))]) dT dF rfl (aIv dT) rfl) ?_
 replace hb4:=hb4.ext he13
 refine RL.runs rfl rfl (bQ (vv:=(.agg #[(bd (k<0)),vr8,(.slice (some ⟨b12,0,none⟩) (1) (1))])) (cs:=[(bd (k<0)),vr8,(.slice (some ⟨b12,0,none⟩) (1) (1))]) (o:=0) dF rfl rfl rfl rfl (aF rfl (aF hr9.one (aF rfl bU))) hb4 bL) ?_
 rintro w16 ⟨hn17,hx18,hz19⟩
 replace hE:=hE.nb hx18 ge_b2
 have nb_hx18:=(Nb.of hb4 (aH rfl (aH rfl (aH rfl cG))))
 replace hb4:Bk w16 b2 51 [(bd (k<0)),vr8,(.slice (some ⟨b12,0,none⟩) (1) (1))]:=hn17
 refine RL.nil ?_
 refine cE ?_
 refine⟨[(.agg #[(bd (k<0)),vr8,(.slice (some ⟨b12,0,none⟩) (1) (1))])],⟨⟨_,_,[(bd (k<0)),vr8,(.slice (some ⟨b12,0,none⟩) (1) (1))],rfl,⟨_,dT⟩,hb4.cells rfl,.inl ⟨fH,⟨_,_,dF⟩,rfl⟩⟩,trivial⟩,?_⟩
 replace hr9:=(hr9.tr (Sm.ext he13)).apn hx18 nb_hx18
 replace hb14:=hb14.exc hx18 (Nat.ne_of_gt lt_b2_b12)
 exact⟨⟨_,_,pT (by rw[Rat.num_intCast]),by rw[Rat.num_intCast];exact hr9,by rw[Rat.den_intCast];exact hb14.sg (g:=gN .u32) (D:=(λb T=>w.heap.size<=b∧T=131)) (xs:=[1]) ⟨ge_b12,rfl⟩ rfl rfl dC,by rw[Rat.num_intCast];omega,Nat.le_refl _⟩,hE⟩
theorem q_sign {w:World} {sx:Bool} {Dx Ex:Nat->TypeId->Prop} {vx ux:Value} {x dx:List Nat} (hx:Sg (gN .u32) Dx w vx x) (lmx:Lm x) (lnx:x.length<=17179869184) (hdx:Sg (gN .u32) Ex w ux dx) (lmdx:Lm dx) (lndx:dx.length<=17179869184) {qx:Rat} (ex:dE sx (val x) (val dx)=qx):
 Calls Tryz.prog 41 #[(.agg #[(.bool sx),vx,ux])] w λe w'=>∃v,e= .returned v∧v= .int .i64 (Int.sign qx.num)∧Ext w w':=by
 have hE:Below w.heap.size w w:=Below.refl _ _
 have hlqx:=oP lmx lmdx ex
 have hdqx:=dS qx
 refine bH (n:=12) (rs:=[.tmp 2]) func41 rfl rfl rfl bL ?_
 refine cV λF0 hF0=>?_
 refine wsr ?_
 refine rU (fZ (vv:=(.agg #[(.bool sx),vx,ux])) (cs:=[(.bool sx),vx,ux]) (hF0 0) rfl) ?_
 rintro _ w1 ⟨b2,rfl,hs5,hb4,he3⟩
 have ge_b2:=hE.ge hs5
 replace hE:=hE.nx he3
 refine aS (v:=(iv 0)) rfl (RL.nil (wsr ?_))
 have hc6:=hb4.cells (o:=0) (cs:=[(.bool sx),vx,ux]) rfl
 refine rV (bX (o:=0) (cs:=[(.bool sx),vx,ux]) dT fH dF rfl hc6) ?_
 replace hx:=hx.tr (Sm.ext he3)
 replace hdx:=hdx.tr (Sm.ext he3)
 refine RL.call rfl rfl dC (bO (vl:=[(.agg #[(.bool sx),vx,ux])]) sF rfl) (kA hx (by assumption) oS hdx (by assumption) oS (show dE sx (val x) (val dx)=qx from ex)) ?_
 rintro _ w7 ⟨⟨sX,vnX,vdX,xnX,xdX,rfl,hnX,lmnX,lnnX,hdX,lmdX,lndX,nzX,eqX⟩,he8⟩
 replace hE:=hE.nx he8
 refine mV (v:=(.tuple #[(.agg #[(.bool sX),vnX]),vdX])) rfl (rV (aI (v:=(.agg #[(.bool sX),vnX])) rfl rfl) (rV (aI (v:=vdX) rfl rfl) ?_))
 refine rU (cZ (cs:=[(.bool false),(.slice none 0 0)]) cO rfl) ?_
 rintro _ w9 ⟨b10,rfl,hs13,hb12,he11⟩
 replace hb4:=hb4.ext he8
 have lt_b2_b10:=Nat.lt_of_lt_of_eq hb4.lt hs13.symm
 have ge_b10:=hE.ge hs13
 replace hE:=hE.nx he11
 refine RL.runs rfl rfl (bQ (vv:=(.agg #[(.bool sX),vnX])) (cs:=[(.bool sX),vnX]) (o:=0) cO rfl rfl rfl rfl (aF rfl (aF hnX.one bU)) hb12 bL) ?_
 rintro w14 ⟨hn15,hx16,hz17⟩
 replace hE:=hE.nb hx16 ge_b10
 have nb_hx16:=(Nb.of hb12 (aH rfl (aH rfl cG)))
 replace hb12:Bk w14 b10 49 [(.bool sX),vnX]:=hn15
 refine aS (v:=vdX) rfl (RL.nil (wsr ?_))
 have hc18:=hb12.cells (o:=0) (cs:=[(.bool sX),vnX]) rfl
 refine rV (bX (o:=0) (cs:=[(.bool sX),vnX]) cQ iB cO rfl hc18) ?_
 replace hnX:=(hnX.tr (Sm.ext he11)).apn hx16 nb_hx16
 refine RL.call rfl rfl dC (bO (vl:=[(.agg #[(.bool sX),vnX])]) aKw rfl) (aCx hnX lmnX oS rfl) ?_
 rintro _ w19 ⟨rfl,he20⟩
 replace hE:=hE.nx he20
 refine aS (v:=(iv (Int.sign (sg sX (val xnX))))) rfl (RL.nil ?_)
 refine cE ?_
 refine⟨[(iv (Int.sign (sg sX (val xnX))))],⟨rfl,trivial⟩,?_⟩
 exact⟨aQ (aLw nzX eqX),hE⟩
theorem q_compare {w:World} {sx:Bool} {Dx Ex:Nat->TypeId->Prop} {vx ux:Value} {x dx:List Nat} (hx:Sg (gN .u32) Dx w vx x) (lmx:Lm x) (lnx:x.length<=17179869184) (hdx:Sg (gN .u32) Ex w ux dx) (lmdx:Lm dx) (lndx:dx.length<=17179869184) {qx:Rat} (ex:dE sx (val x) (val dx)=qx) {sy:Bool} {Dy Ey:Nat->TypeId->Prop} {vy uy:Value} {y dy:List Nat} (hy:Sg (gN .u32) Dy w vy y) (lmy:Lm y) (lny:y.length<=17179869184) (hdy:Sg (gN .u32) Ey w uy dy) (lmdy:Lm dy) (lndy:dy.length<=17179869184) {qy:Rat} (ey:dE sy (val y) (val dy)=qy):
 Calls Tryz.prog 145 #[(.agg #[(.bool sx),vx,ux]),(.agg #[(.bool sy),vy,uy])] w λe w'=>∃v,e= .returned v∧v= .int .i64 (cmpQ qx qy)∧Ext w w':=by
 have hE:Below w.heap.size w w:=Below.refl _ _
 have hlqx:=oP lmx lmdx ex
 have hdqx:=dS qx
 have hlqy:=oP lmy lmdy ey
 have hdqy:=dS qy
 refine bH (n:=69) (rs:=[.tmp 4]) func145 rfl rfl rfl bL ?_
 refine cV λF0 hF0=>?_
 refine wsr ?_
 refine rU (fZ (vv:=(.agg #[(.bool sx),vx,ux])) (cs:=[(.bool sx),vx,ux]) (hF0 0) rfl) ?_
 rintro _ w1 ⟨b2,rfl,hs5,hb4,he3⟩
 have ge_b2:=hE.ge hs5
 replace hE:=hE.nx he3
 refine rU (fZ (vv:=(.agg #[(.bool sy),vy,uy])) (cs:=[(.bool sy),vy,uy]) (hF0 1) rfl) ?_
 rintro _ w6 ⟨b7,rfl,hs10,hb9,he8⟩
 have lt_b2_b7:=Nat.lt_of_lt_of_eq hb4.lt hs10.symm
 have ge_b7:=hE.ge hs10
 replace hE:=hE.nx he8
 refine aS (v:=(iv 0)) rfl (RL.nil (bB (bB ?_)))
 refine fI fV λw11 he12=>?_
 replace hE:=hE.nx he12
 replace hb4:=hb4.ext (Ext.trans he8 he12)
 have hc13:=hb4.cells (o:=0) (cs:=[(.bool sx),vx,ux]) rfl
 refine RA.rd 0 rfl kR rfl rfl rfl dC (Ext.refl _) (λu hu=>bX (o:=0) (cs:=[(.bool sx),vx,ux]) dT fH dF rfl (λj v hj=>bT hu (hc13 j v hj))) ?_
 replace hb9:=hb9.ext he12
 have hc14:=hb9.cells (o:=0) (cs:=[(.bool sy),vy,uy]) rfl
 refine RA.rd 2 rfl kR rfl rfl rfl dC (Ext.refl _) (λu hu=>bX (o:=0) (cs:=[(.bool sy),vy,uy]) dT fH dF rfl (λj v hj=>bT hu (hc14 j v hj))) ?_
 refine RA.all [1] kR rfl ?_
 have hm17:=Ext.trans he3 (Ext.trans he8 he12)
 replace hx:=hx.tr (Sm.ext hm17)
 replace hdx:=hdx.tr (Sm.ext hm17)
 refine RS.call rfl rfl rfl dC (bO (vl:=[(.agg #[(.bool sx),vx,ux])]) aGc rfl) (q_sign hx (by assumption) oS hdx (by assumption) oS (show dE sx (val x) (val dx)=qx from ex)) ?_ RS.nil
 rintro _ w15 ⟨rfl,he16⟩
 refine rm he16 ?_
 replace hE:=hE.nx he16
 refine RA.all [3] kR rfl ?_
 have hm20:=Ext.trans hm17 he16
 replace hy:=hy.tr (Sm.ext hm20)
 replace hdy:=hdy.tr (Sm.ext hm20)
 refine RS.call rfl rfl rfl dC (bO (vl:=[(.agg #[(.bool sy),vy,uy])]) aGc rfl) (q_sign hy (by assumption) oS hdy (by assumption) oS (show dE sy (val y) (val dy)=qy from ey)) ?_ RS.nil
 rintro _ w18 ⟨rfl,he19⟩
 refine rm he19 ?_
 replace hE:=hE.nx he19
 refine ra 4 rfl (λ_=>bS (v:=(iv (Int.sign qx.num))) rfl) ?_
 refine ra 5 rfl (λ_=>bS (v:=(iv (Int.sign qy.num))) rfl) ?_
 refine RA.done kR ?_
 refine wsr (mV (v:=(iv (Int.sign qx.num))) rfl (mV (v:=(iv (Int.sign qy.num))) rfl (rV (mI (k:=.i64) (a:=Int.sign qx.num) (b:=Int.sign qy.num) rfl rfl) (RL.nil ?_))))
 refine wcD (p:=(Int.sign qx.num)≠(Int.sign qy.num)) rfl (λhb21 hb21p=>?_) (λhb21 hb21p=>?_)
 ·have hsn:=hb21p
  refine wsr (mV (v:=(iv (Int.sign qx.num))) rfl (mV (v:=(iv (Int.sign qy.num))) rfl ?_))
  refine cL aZp (aUd _) rfl ?_
  rintro _ _ ⟨rfl,rfl⟩
  refine aS (v:=(iv (cmpI (Int.sign qx.num) (Int.sign qy.num)))) rfl (RL.nil ?_)
  refine cE ?_
  refine⟨[(iv (cmpI (Int.sign qx.num) (Int.sign qy.num)))],⟨rfl,trivial⟩,?_⟩
  exact⟨aQ (aJg hsn),hE⟩
 refine bW ?_
 refine wsr ?_
 replace hb4:=hb4.ext (Ext.trans he16 he19)
 have hc23:=hb4.cells (o:=0) (cs:=[(.bool sx),vx,ux]) rfl
 refine rV (bX (o:=0) (cs:=[(.bool sx),vx,ux]) dT fH dF rfl hc23) ?_
 replace hx:=hx.tr (Sm.ext (Ext.trans he16 he19))
 replace hdx:=hdx.tr (Sm.ext (Ext.trans he16 he19))
 refine RL.call rfl rfl dC (bO (vl:=[(.agg #[(.bool sx),vx,ux])]) uE rfl) (lW hx (by assumption) oS hdx (by assumption) oS (show dE sx (val x) (val dx)=qx from ex)) ?_
 rintro _ w24 ⟨⟨nX,dX,okX,rfl,hsX⟩,he25⟩
 replace hE:=hE.nx he25
 refine mV (v:=(.tuple #[(iv nX),(iv dX),(.bool okX)])) rfl (rV (aI (v:=(iv nX)) rfl rfl) (rV (aI (v:=(iv dX)) rfl rfl) (rV (aI (v:=(.bool okX)) rfl rfl) (aS (v:=(iv nX)) rfl (aS (v:=(iv dX)) rfl ?_)))))
 refine aS (v:=(.bool okX)) rfl (RL.nil (wsr ?_))
 have hm27:=Ext.trans he16 (Ext.trans he19 he25)
 replace hb9:=hb9.ext hm27
 have hc26:=hb9.cells (o:=0) (cs:=[(.bool sy),vy,uy]) rfl
 refine rV (bX (o:=0) (cs:=[(.bool sy),vy,uy]) dT fH dF rfl hc26) ?_
 replace hy:=hy.tr (Sm.ext (Ext.trans he19 he25))
 replace hdy:=hdy.tr (Sm.ext (Ext.trans he19 he25))
 refine RL.call rfl rfl dC (bO (vl:=[(.agg #[(.bool sy),vy,uy])]) uE rfl) (lW hy (by assumption) oS hdy (by assumption) oS (show dE sy (val y) (val dy)=qy from ey)) ?_
 rintro _ w28 ⟨⟨nY,dY,okY,rfl,hsY⟩,he29⟩
 replace hE:=hE.nx he29
 refine mV (v:=(.tuple #[(iv nY),(iv dY),(.bool okY)])) rfl (rV (aI (v:=(iv nY)) rfl rfl) (rV (aI (v:=(iv dY)) rfl rfl) (rV (aI (v:=(.bool okY)) rfl rfl) (aS (v:=(iv nY)) rfl (aS (v:=(iv dY)) rfl ?_)))))
 refine aS (v:=(.bool okY)) rfl (RL.nil (bB ?_))
 refine cV λF30 hF31=>?_
 refine oI (λfl wl=>∃t:Bool,Off [39,40,41,42] F30 fl∧fl 42=(.bool t)∧(t=true->okX=true∧okY=true)∧(Sg (gN .u32) Dx wl vx x)∧(Sg (gN .u32) Dy wl vy y)∧(Sg (gN .u32) Ex wl ux dx)∧(Sg (gN .u32) Ey wl uy dy)∧(Below w.heap.size w wl)∧(Bk wl b2 51 [(.bool sx),vx,ux])∧(Bk wl b7 51 [(.bool sy),vy,uy])) ?_ ?_
 ·have hoff32:=Off.refl [39,40,41,42] F30
  refine aV (mV (v:=(.bool okX)) (hF31 9) (mV (v:=(.bool okX)) rfl ?_))
  rcases Bool.eq_false_or_eq_true (okX) with hb33|hb33
  ·have hb33p:=hb33
   have hokX:=hb33
   refine RL.gval rfl rfl (aD hb33) rfl dC (aG (v:=(.bool okY)) (hF31 12)) ?_
   refine rV (dV (v:=(.bool okY)) (aD hb33) rfl) (RL.nil ?_)
   replace hx:=hx.tr (Sm.ext (Ext.trans he25 he29))
   replace hy:=hy.tr (Sm.ext he29)
   replace hdx:=hdx.tr (Sm.ext (Ext.trans he25 he29))
   replace hdy:=hdy.tr (Sm.ext he29)
   replace hb4:=hb4.ext (Ext.trans he25 he29)
   replace hb9:=hb9.ext he29
   refine⟨okY,?_,?_,?_,?_,?_,?_,?_,?_,?_,?_⟩
   ·exact(by repeat (first|exact hoff32|refine Off.st ?_ dC _))
   ·rfl
   ·exact λh=>⟨hokX,h⟩
   ·exact hx
   ·exact hy
   ·exact hdx
   ·exact hdy
   ·exact hE
   ·exact hb4
   exact hb9
  have hb33p:=hb33
  refine RL.gno rfl rfl (aD hb33) rfl dC ?_
  refine rV (eP (v:=(.bool false)) (aD hb33) rfl) (RL.nil ?_)
  replace hx:=hx.tr (Sm.ext (Ext.trans he25 he29))
  replace hy:=hy.tr (Sm.ext he29)
  replace hdx:=hdx.tr (Sm.ext (Ext.trans he25 he29))
  replace hdy:=hdy.tr (Sm.ext he29)
  replace hb4:=hb4.ext (Ext.trans he25 he29)
  replace hb9:=hb9.ext he29
  refine⟨false,?_,?_,?_,?_,?_,?_,?_,?_,?_,?_⟩
  ·exact(by repeat (first|exact hoff32|refine Off.st ?_ dC _))
  ·rfl
  ·exact λh=>by cases h
  ·exact hx
  ·exact hy
  ·exact hdx
  ·exact hdy
  ·exact hE
  ·exact hb4
  exact hb9
 clear hx hy hdx hdy hE hb4 hb9
 rintro f34 w35 ⟨t,hoff36,hs37,ht,hx,hy,hdx,hdy,hE,hb4,hb9⟩
 refine kO (b:=t) hs37 (λhb38=>?_) (λhb38=>?_)
 ·have hb38p:=hb38
  have hsx1:=hsX (ht hb38).1
  have hsy1:=hsY (ht hb38).2
  refine bB ?_
  have hm1:=mJ (a:=nX) (b:=dY) ⟨by omega,by omega⟩ ⟨by omega,by omega⟩
  have hm2:=mJ (a:=nY) (b:=dX) ⟨by omega,by omega⟩ ⟨by omega,by omega⟩
  have hm3:=mJ (a:=dX) (b:=dY) ⟨by omega,by omega⟩ ⟨by omega,by omega⟩
  have hm4:=mJ (a:=nX) (b:=nY) ⟨by omega,by omega⟩ ⟨by omega,by omega⟩
  have hmp:=Int.mul_pos hsx1.2.2.1 hsy1.2.2.1
  refine aV (mV (v:=(iv nX)) ((hoff36 7 rfl).trans (hF31 7)) (mV (v:=(iv dY)) ((hoff36 11 rfl).trans (hF31 11)) (rV (jX (k:=.i64) (a:=nX) (b:=dY) (c:=nX*dY) rfl rfl (dJ oM)) (mV (v:=(iv nY)) ((hoff36 10 rfl).trans (hF31 10)) (mV (v:=(iv dX)) ((hoff36 8 rfl).trans (hF31 8)) ?_)))))
  refine rV (jX (k:=.i64) (a:=nY) (b:=dX) (c:=nY*dX) rfl rfl (dJ oM)) ?_
  refine cL aZu (aIw _) rfl ?_
  rintro _ _ ⟨rfl,rfl⟩
  refine aS (v:=(iv (cmpI (nX*dY) (nY*dX)))) rfl (RL.nil ?_)
  refine cE ?_
  refine⟨[(iv (cmpI (nX*dY) (nY*dX)))],⟨rfl,trivial⟩,?_⟩
  exact⟨aQ (aGk (tB hsx1.2.2.1 hsy1.2.2.1 hsx1.2.2.2.2 hsy1.2.2.2.2) (tB hsy1.2.2.1 hsx1.2.2.1 hsy1.2.2.2.2 hsx1.2.2.2.2)),hE⟩
 have hb38p:=hb38
 refine bW ?_
 refine wsr ?_
 have hc40:=hb4.cells (o:=0) (cs:=[(.bool sx),vx,ux]) rfl
 refine rV (bX (o:=0) (cs:=[(.bool sx),vx,ux]) dT fH dF ((hoff36 2 rfl).trans (hF31 2)) hc40) ?_
 refine RL.call rfl rfl dC (bO (vl:=[(.agg #[(.bool sx),vx,ux])]) sF rfl) (kA hx (by assumption) oS hdx (by assumption) oS (show dE sx (val x) (val dx)=qx from ex)) ?_
 rintro _ w41 ⟨⟨sX,vnX,vdX,xnX,xdX,rfl,hnX,lmnX,lnnX,hdX,lmdX,lndX,nzX,eqX⟩,he42⟩
 replace hE:=hE.nx he42
 refine mV (v:=(.tuple #[(.agg #[(.bool sX),vnX]),vdX])) rfl (rV (aI (v:=(.agg #[(.bool sX),vnX])) rfl rfl) (rV (aI (v:=vdX) rfl rfl) ?_))
 refine rU (cZ (cs:=[(.bool false),(.slice none 0 0)]) cO rfl) ?_
 rintro _ w43 ⟨b44,rfl,hs47,hb46,he45⟩
 replace hb9:=hb9.ext he42
 have lt_b7_b44:=Nat.lt_of_lt_of_eq hb9.lt hs47.symm
 have ge_b44:=hE.ge hs47
 replace hE:=hE.nx he45
 refine RL.runs rfl rfl (bQ (vv:=(.agg #[(.bool sX),vnX])) (cs:=[(.bool sX),vnX]) (o:=0) cO rfl rfl rfl rfl (aF rfl (aF hnX.one bU)) hb46 bL) ?_
 rintro w48 ⟨hn49,hx50,hz51⟩
 replace hE:=hE.nb hx50 ge_b44
 have nb_hx50:=(Nb.of hb46 (aH rfl (aH rfl cG)))
 replace hb46:Bk w48 b44 49 [(.bool sX),vnX]:=hn49
 refine aS (v:=vdX) rfl (RL.nil (wsr ?_))
 replace hb9:=(hb9.ext he45).exc hx50 (Nat.ne_of_lt lt_b7_b44)
 have hc52:=hb9.cells (o:=0) (cs:=[(.bool sy),vy,uy]) rfl
 refine rV (bX (o:=0) (cs:=[(.bool sy),vy,uy]) dT fH dF ((hoff36 3 rfl).trans (hF31 3)) hc52) ?_
 replace hy:=(hy.tr (Sm.ext (Ext.trans he42 he45))).apn hx50 nb_hx50
 replace hdy:=(hdy.tr (Sm.ext (Ext.trans he42 he45))).apn hx50 nb_hx50
 refine RL.call rfl rfl dC (bO (vl:=[(.agg #[(.bool sy),vy,uy])]) sF rfl) (kA hy (by assumption) oS hdy (by assumption) oS (show dE sy (val y) (val dy)=qy from ey)) ?_
 rintro _ w53 ⟨⟨sY,vnY,vdY,xnY,xdY,rfl,hnY,lmnY,lnnY,hdY,lmdY,lndY,nzY,eqY⟩,he54⟩
 replace hE:=hE.nx he54
 refine mV (v:=(.tuple #[(.agg #[(.bool sY),vnY]),vdY])) rfl (rV (aI (v:=(.agg #[(.bool sY),vnY])) rfl rfl) (rV (aI (v:=vdY) rfl rfl) ?_))
 refine rU (cZ (cs:=[(.bool false),(.slice none 0 0)]) cO rfl) ?_
 rintro _ w55 ⟨b56,rfl,hs59,hb58,he57⟩
 replace hb46:=hb46.ext he54
 have lt_b44_b56:=Nat.lt_of_lt_of_eq hb46.lt hs59.symm
 have ge_b56:=hE.ge hs59
 replace hE:=hE.nx he57
 refine RL.runs rfl rfl (bQ (vv:=(.agg #[(.bool sY),vnY])) (cs:=[(.bool sY),vnY]) (o:=0) cO rfl rfl rfl rfl (aF rfl (aF hnY.one bU)) hb58 bL) ?_
 rintro w60 ⟨hn61,hx62,hz63⟩
 replace hE:=hE.nb hx62 ge_b56
 have nb_hx62:=(Nb.of hb58 (aH rfl (aH rfl cG)))
 replace hb58:Bk w60 b56 49 [(.bool sY),vnY]:=hn61
 refine aS (v:=vdY) rfl (RL.nil (bB ?_))
 refine fI fV λw64 he65=>?_
 replace hE:=hE.nx he65
 replace hb46:=((hb46.ext he57).exc hx62 (Nat.ne_of_lt lt_b44_b56)).ext he65
 have hc66:=hb46.cells (o:=0) (cs:=[(.bool sX),vnX]) rfl
 refine RA.rd 0 rfl kR rfl rfl rfl dC (Ext.refl _) (λu hu=>bX (o:=0) (cs:=[(.bool sX),vnX]) cQ iB cO rfl (λj v hj=>bT hu (hc66 j v hj))) ?_
 refine ra 1 rfl (λ_=>aG (v:=vdY) rfl) ?_
 refine ra 2 rfl (λ_=>eR (vl:=[(1,vdY)]) (cs:=[(.bool false),vdY]) cQ cO rfl (aAn cQ) (by obtain⟨_,_,e0_,-,-⟩:=hdY.len;simp only[e0_];rfl)) ?_
 replace hb58:=hb58.ext he65
 have hc67:=hb58.cells (o:=0) (cs:=[(.bool sY),vnY]) rfl
 refine RA.rd 4 rfl kR rfl rfl rfl dC (Ext.refl _) (λu hu=>bX (o:=0) (cs:=[(.bool sY),vnY]) cQ iB cO rfl (λj v hj=>bT hu (hc67 j v hj))) ?_
 refine ra 5 rfl (λ_=>aG (v:=vdX) rfl) ?_
 refine ra 6 rfl (λ_=>eR (vl:=[(1,vdX)]) (cs:=[(.bool false),vdX]) cQ cO rfl (aAn cQ) (by obtain⟨_,_,e0_,-,-⟩:=hdX.len;simp only[e0_];rfl)) ?_
 refine RA.all [3] kR rfl ?_
 replace hnX:=((((hnX.tr (Sm.ext he45)).apn hx50 nb_hx50).tr (Sm.ext (Ext.trans he54 he57))).apn hx62 nb_hx62).tr (Sm.ext he65)
 replace hdY:=((hdY.tr (Sm.ext he57)).apn hx62 nb_hx62).tr (Sm.ext he65)
 refine RS.call rfl rfl rfl dC (bO (vl:=[(.agg #[(.bool sX),vnX]),(.agg #[(.bool false),vdY])]) sG rfl) (sI hnX lmnX oS rfl hdY lmdY oS rfl) ?_ RS.nil
 rintro _ w68 ⟨⟨vr70,rfl,hr71,hl72⟩,he69⟩
 refine rm he69 ?_
 replace hr71:=hr71.fr hE
 replace hE:=hE.nx he69
 refine RA.all [7] kR rfl ?_
 replace hnY:=((hnY.tr (Sm.ext he57)).apn hx62 nb_hx62).tr (Sm.ext (Ext.trans he65 he69))
 replace hdX:=((((hdX.tr (Sm.ext he45)).apn hx50 nb_hx50).tr (Sm.ext (Ext.trans he54 he57))).apn hx62 nb_hx62).tr (Sm.ext (Ext.trans he65 he69))
 refine RS.call rfl rfl rfl dC (bO (vl:=[(.agg #[(.bool sY),vnY]),(.agg #[(.bool false),vdX])]) sG rfl) (sI hnY lmnY oS rfl hdX lmdX oS rfl) ?_ RS.nil
 rintro _ w73 ⟨⟨vr75,rfl,hr76,hl77⟩,he74⟩
 refine rm he74 ?_
 replace hr76:=hr76.fr hE
 replace hE:=hE.nx he74
 refine RA.all [8] kR rfl ?_
 replace hr71:=hr71.tr (Sm.ext he74)
 refine RS.call rfl rfl rfl dC (bO (vl:=[(.agg #[(bd (((sg sX (val xnX))*(sg false (val xdY)))<0)),vr70]),(.agg #[(bd (((sg sY (val xnY))*(sg false (val xdX)))<0)),vr75])]) aZv rfl) (aJf hr71 (aR _) oS (aU _) hr76 (aR _) oS (aU _)) ?_ RS.nil
 rintro _ w78 ⟨rfl,he79⟩
 refine rm he79 ?_
 replace hE:=hE.nx he79
 refine ra 9 rfl (λ_=>bS (v:=(iv (cmpI ((sg sX (val xnX))*(sg false (val xdY))) ((sg sY (val xnY))*(sg false (val xdX)))))) rfl) ?_
 refine RA.done kR ?_
 refine cE ?_
 refine⟨[(iv (cmpI ((sg sX (val xnX))*(sg false (val xdY))) ((sg sY (val xnY))*(sg false (val xdX)))))],⟨rfl,trivial⟩,?_⟩
 have p1:(0:Int)<sg false (val xdX):=by rw[sg_f];omega
 have p2:(0:Int)<sg false (val xdY):=by rw[sg_f];omega
 exact⟨aQ (aGk (tB p1 p2 eqX eqY) (tB p2 p1 eqY eqX)),hE⟩
theorem q_add {w:World} {sx:Bool} {Dx Ex:Nat->TypeId->Prop} {vx ux:Value} {x dx:List Nat} (hx:Sg (gN .u32) Dx w vx x) (lmx:Lm x) (lnx:x.length<=17179869184) (hdx:Sg (gN .u32) Ex w ux dx) (lmdx:Lm dx) (lndx:dx.length<=17179869184) {qx:Rat} (ex:dE sx (val x) (val dx)=qx) {sy:Bool} {Dy Ey:Nat->TypeId->Prop} {vy uy:Value} {y dy:List Nat} (hy:Sg (gN .u32) Dy w vy y) (lmy:Lm y) (lny:y.length<=17179869184) (hdy:Sg (gN .u32) Ey w uy dy) (lmdy:Lm dy) (lndy:dy.length<=17179869184) {qy:Rat} (ey:dE sy (val y) (val dy)=qy):
 Calls Tryz.prog 80 #[(.agg #[(.bool sx),vx,ux]),(.agg #[(.bool sy),vy,uy])] w λe w'=>∃v,e= .returned v∧(∃vn vd,v= .agg #[.bool (decide ((qx+qy).num<0)),vn,vd]∧Sg (gN .u32) (λb T=>w.heap.size<=b∧T=131) w' vn (aB (qx+qy).num.natAbs)∧Sg (gN .u32) (λb T=>w.heap.size<=b∧T=131) w' vd (aB (qx+qy).den)∧(aB (qx+qy).num.natAbs).length<=max (x.length+dy.length) (y.length+dx.length)+2∧(aB (qx+qy).den).length<=dx.length+dy.length+3)∧Ext w w':=by
 have hE:Below w.heap.size w w:=Below.refl _ _
 have hlqx:=oP lmx lmdx ex
 have hdqx:=dS qx
 have hlqy:=oP lmy lmdy ey
 have hdqy:=dS qy
 refine bH (n:=86) (rs:=[.cell 4 51]) func80 rfl rfl rfl bL ?_
 refine cV λF0 hF0=>?_
 refine wsr ?_
 refine rU (fZ (vv:=(.agg #[(.bool sx),vx,ux])) (cs:=[(.bool sx),vx,ux]) (hF0 0) rfl) ?_
 rintro _ w1 ⟨b2,rfl,hs5,hb4,he3⟩
 have ge_b2:=hE.ge hs5
 replace hE:=hE.nx he3
 refine rU (fZ (vv:=(.agg #[(.bool sy),vy,uy])) (cs:=[(.bool sy),vy,uy]) (hF0 1) rfl) ?_
 rintro _ w6 ⟨b7,rfl,hs10,hb9,he8⟩
 have lt_b2_b7:=Nat.lt_of_lt_of_eq hb4.lt hs10.symm
 have ge_b7:=hE.ge hs10
 replace hE:=hE.nx he8
 refine rU (cZ (cs:=[(.bool false),(.slice none 0 0),(.slice none 0 0)]) dF rfl) ?_
 rintro _ w11 ⟨b12,rfl,hs15,hb14,he13⟩
 have lt_b7_b12:=Nat.lt_of_lt_of_eq hb9.lt hs15.symm
 have ge_b12:=hE.ge hs15
 replace hE:=hE.nx he13
 refine RL.nil (bB (wsr ?_))
 replace hb4:=hb4.ext (Ext.trans he8 he13)
 have hc16:=hb4.cells (o:=0) (cs:=[(.bool sx),vx,ux]) rfl
 refine rV (bX (o:=0) (cs:=[(.bool sx),vx,ux]) dT fH dF rfl hc16) ?_
 have hm19:=Ext.trans he3 (Ext.trans he8 he13)
 replace hx:=hx.tr (Sm.ext hm19)
 replace hdx:=hdx.tr (Sm.ext hm19)
 refine RL.call rfl rfl dC (bO (vl:=[(.agg #[(.bool sx),vx,ux])]) aGc rfl) (q_sign hx (by assumption) oS hdx (by assumption) oS (show dE sx (val x) (val dx)=qx from ex)) ?_
 rintro _ w17 ⟨rfl,he18⟩
 replace hE:=hE.nx he18
 refine rV (iW (k:=.i64) (a:=Int.sign qx.num) (b:=0) rfl rfl) (RL.nil ?_)
 refine wcD (p:=(Int.sign qx.num)=0) rfl (λhb20 hb20p=>?_) (λhb20 hb20p=>?_)
 ·have hx0:qx=0:=(aGj qx).1 hb20p
  refine wsr ?_
  replace hb9:=hb9.ext (Ext.trans he13 he18)
  have hc21:=hb9.cells (o:=0) (cs:=[(.bool sy),vy,uy]) rfl
  refine rV (bX (o:=0) (cs:=[(.bool sy),vy,uy]) dT fH dF rfl hc21) ?_
  have hm30:=Ext.trans hm19 he18
  replace hy:=hy.tr (Sm.ext hm30)
  replace hdy:=hdy.tr (Sm.ext hm30)
  refine RL.call rfl rfl dC (bO (vl:=[(.agg #[(.bool sy),vy,uy])]) aYe rfl) (q_norm hy (by assumption) oS hdy (by assumption) oS (show dE sy (val y) (val dy)=qy from ey)) ?_
  rintro _ w22 ⟨⟨vn24,vd26,rfl,hn25,hd27,hl28,hl29⟩,he23⟩
  have hlv31:=dS qy
  replace hn25:=hn25.fr hE
  replace hd27:=hd27.fr hE
  replace hE:=hE.nx he23
  replace hb14:=hb14.ext (Ext.trans he18 he23)
  refine RL.runs rfl rfl (bQ (vv:=(.agg #[(bd (qy.num<0)),vn24,vd26])) (cs:=[(bd (qy.num<0)),vn24,vd26]) (o:=0) dF rfl rfl rfl rfl (aF rfl (aF hn25.one (aF hd27.one bU))) hb14 bL) ?_
  rintro w32 ⟨hn33,hx34,hz35⟩
  replace hE:=hE.nb hx34 ge_b12
  have nb_hx34:=(Nb.of hb14 (aH rfl (aH rfl (aH rfl cG))))
  replace hb14:Bk w32 b12 51 [(bd (qy.num<0)),vn24,vd26]:=hn33
  refine RL.nil ?_
  refine cE ?_
  refine⟨[(.agg #[(bd (qy.num<0)),vn24,vd26])],⟨⟨_,_,[(bd (qy.num<0)),vn24,vd26],rfl,⟨_,dT⟩,hb14.cells rfl,.inl ⟨fH,⟨_,_,dF⟩,rfl⟩⟩,trivial⟩,?_⟩
  have hlr:=kV qx qy
  have hq:qy=(qx+qy):=by first|(rw[hx0,Rat.zero_add];done)|(rw[hy0,Rat.add_zero];done)|exact eI hsx1.2.2.1 hsy1.2.2.1 hsx1.2.2.2.2 hsy1.2.2.2.2|exact kU oM eqX (by rw[hxd];exact eqY)|(rw[Int.natCast_mul];exact eI (by rw[sg_f];omega) (by rw[sg_f];omega) eqX eqY)
  replace hn25:=hn25.apn hx34 nb_hx34
  replace hd27:=hd27.apn hx34 nb_hx34
  exact⟨⟨_,_,pT (congrArg (λz:Rat=>decide (z.num<0)) hq),by rw[<-hq];exact hn25,by rw[<-hq];exact hd27,by omega,by omega⟩,hE⟩
 refine bW ?_
 refine bB (wsr ?_)
 replace hb9:=hb9.ext (Ext.trans he13 he18)
 have hc36:=hb9.cells (o:=0) (cs:=[(.bool sy),vy,uy]) rfl
 refine rV (bX (o:=0) (cs:=[(.bool sy),vy,uy]) dT fH dF rfl hc36) ?_
 have hm39:=Ext.trans hm19 he18
 replace hy:=hy.tr (Sm.ext hm39)
 replace hdy:=hdy.tr (Sm.ext hm39)
 refine RL.call rfl rfl dC (bO (vl:=[(.agg #[(.bool sy),vy,uy])]) aGc rfl) (q_sign hy (by assumption) oS hdy (by assumption) oS (show dE sy (val y) (val dy)=qy from ey)) ?_
 rintro _ w37 ⟨rfl,he38⟩
 replace hE:=hE.nx he38
 refine rV (iW (k:=.i64) (a:=Int.sign qy.num) (b:=0) rfl rfl) (RL.nil ?_)
 refine wcD (p:=(Int.sign qy.num)=0) rfl (λhb40 hb40p=>?_) (λhb40 hb40p=>?_)
 ·have hy0:qy=0:=(aGj qy).1 hb40p
  refine wsr ?_
  replace hb4:=hb4.ext (Ext.trans he18 he38)
  have hc41:=hb4.cells (o:=0) (cs:=[(.bool sx),vx,ux]) rfl
  refine rV (bX (o:=0) (cs:=[(.bool sx),vx,ux]) dT fH dF rfl hc41) ?_
  replace hx:=hx.tr (Sm.ext (Ext.trans he18 he38))
  replace hdx:=hdx.tr (Sm.ext (Ext.trans he18 he38))
  refine RL.call rfl rfl dC (bO (vl:=[(.agg #[(.bool sx),vx,ux])]) aYe rfl) (q_norm hx (by assumption) oS hdx (by assumption) oS (show dE sx (val x) (val dx)=qx from ex)) ?_
  rintro _ w42 ⟨⟨vn44,vd46,rfl,hn45,hd47,hl48,hl49⟩,he43⟩
  have hlv50:=dS qx
  replace hn45:=hn45.fr hE
  replace hd47:=hd47.fr hE
  replace hE:=hE.nx he43
  have hm55:=Ext.trans he18 (Ext.trans he38 he43)
  replace hb14:=hb14.ext hm55
  refine RL.runs rfl rfl (bQ (vv:=(.agg #[(bd (qx.num<0)),vn44,vd46])) (cs:=[(bd (qx.num<0)),vn44,vd46]) (o:=0) dF rfl rfl rfl rfl (aF rfl (aF hn45.one (aF hd47.one bU))) hb14 bL) ?_
  rintro w51 ⟨hn52,hx53,hz54⟩
  replace hE:=hE.nb hx53 ge_b12
  have nb_hx53:=(Nb.of hb14 (aH rfl (aH rfl (aH rfl cG))))
  replace hb14:Bk w51 b12 51 [(bd (qx.num<0)),vn44,vd46]:=hn52
  refine RL.nil ?_
  refine cE ?_
  refine⟨[(.agg #[(bd (qx.num<0)),vn44,vd46])],⟨⟨_,_,[(bd (qx.num<0)),vn44,vd46],rfl,⟨_,dT⟩,hb14.cells rfl,.inl ⟨fH,⟨_,_,dF⟩,rfl⟩⟩,trivial⟩,?_⟩
  have hlr:=kV qx qy
  have hq:qx=(qx+qy):=by first|(rw[hx0,Rat.zero_add];done)|(rw[hy0,Rat.add_zero];done)|exact eI hsx1.2.2.1 hsy1.2.2.1 hsx1.2.2.2.2 hsy1.2.2.2.2|exact kU oM eqX (by rw[hxd];exact eqY)|(rw[Int.natCast_mul];exact eI (by rw[sg_f];omega) (by rw[sg_f];omega) eqX eqY)
  replace hn45:=hn45.apn hx53 nb_hx53
  replace hd47:=hd47.apn hx53 nb_hx53
  exact⟨⟨_,_,pT (congrArg (λz:Rat=>decide (z.num<0)) hq),by rw[<-hq];exact hn45,by rw[<-hq];exact hd47,by omega,by omega⟩,hE⟩
 refine bW ?_
 refine wsr ?_
 replace hb4:=hb4.ext (Ext.trans he18 he38)
 have hc56:=hb4.cells (o:=0) (cs:=[(.bool sx),vx,ux]) rfl
 refine rV (bX (o:=0) (cs:=[(.bool sx),vx,ux]) dT fH dF rfl hc56) ?_
 replace hx:=hx.tr (Sm.ext (Ext.trans he18 he38))
 replace hdx:=hdx.tr (Sm.ext (Ext.trans he18 he38))
 refine RL.call rfl rfl dC (bO (vl:=[(.agg #[(.bool sx),vx,ux])]) uE rfl) (lW hx (by assumption) oS hdx (by assumption) oS (show dE sx (val x) (val dx)=qx from ex)) ?_
 rintro _ w57 ⟨⟨nX,dX,okX,rfl,hsX⟩,he58⟩
 replace hE:=hE.nx he58
 refine mV (v:=(.tuple #[(iv nX),(iv dX),(.bool okX)])) rfl (rV (aI (v:=(iv nX)) rfl rfl) (rV (aI (v:=(iv dX)) rfl rfl) (rV (aI (v:=(.bool okX)) rfl rfl) (aS (v:=(iv nX)) rfl (aS (v:=(iv dX)) rfl ?_)))))
 refine aS (v:=(.bool okX)) rfl (RL.nil (wsr ?_))
 replace hb9:=hb9.ext (Ext.trans he38 he58)
 have hc59:=hb9.cells (o:=0) (cs:=[(.bool sy),vy,uy]) rfl
 refine rV (bX (o:=0) (cs:=[(.bool sy),vy,uy]) dT fH dF rfl hc59) ?_
 replace hy:=hy.tr (Sm.ext (Ext.trans he38 he58))
 replace hdy:=hdy.tr (Sm.ext (Ext.trans he38 he58))
 refine RL.call rfl rfl dC (bO (vl:=[(.agg #[(.bool sy),vy,uy])]) uE rfl) (lW hy (by assumption) oS hdy (by assumption) oS (show dE sy (val y) (val dy)=qy from ey)) ?_
 rintro _ w60 ⟨⟨nY,dY,okY,rfl,hsY⟩,he61⟩
 replace hE:=hE.nx he61
 refine mV (v:=(.tuple #[(iv nY),(iv dY),(.bool okY)])) rfl (rV (aI (v:=(iv nY)) rfl rfl) (rV (aI (v:=(iv dY)) rfl rfl) (rV (aI (v:=(.bool okY)) rfl rfl) (aS (v:=(iv nY)) rfl (aS (v:=(iv dY)) rfl ?_)))))
 refine aS (v:=(.bool okY)) rfl (RL.nil (bB ?_))
 refine cV λF62 hF63=>?_
 refine oI (λfl wl=>∃t:Bool,Off [38,39,40,41] F62 fl∧fl 41=(.bool t)∧(t=true->okX=true∧okY=true)∧(Sg (gN .u32) Dx wl vx x)∧(Sg (gN .u32) Dy wl vy y)∧(Sg (gN .u32) Ex wl ux dx)∧(Sg (gN .u32) Ey wl uy dy)∧(Below w.heap.size w wl)∧(Bk wl b2 51 [(.bool sx),vx,ux])∧(Bk wl b7 51 [(.bool sy),vy,uy])∧(Bk wl b12 51 [(.bool false),(.slice none 0 0),(.slice none 0 0)])) ?_ ?_
 ·have hoff64:=Off.refl [38,39,40,41] F62
  refine aV (mV (v:=(.bool okX)) (hF63 7) (mV (v:=(.bool okX)) rfl ?_))
  rcases Bool.eq_false_or_eq_true (okX) with hb65|hb65
  ·have hb65p:=hb65
   have hokX:=hb65
   refine RL.gval rfl rfl (aD hb65) rfl dC (aG (v:=(.bool okY)) (hF63 10)) ?_
   refine rV (dV (v:=(.bool okY)) (aD hb65) rfl) (RL.nil ?_)
   replace hx:=hx.tr (Sm.ext (Ext.trans he58 he61))
   replace hy:=hy.tr (Sm.ext he61)
   replace hdx:=hdx.tr (Sm.ext (Ext.trans he58 he61))
   replace hdy:=hdy.tr (Sm.ext he61)
   replace hb4:=hb4.ext (Ext.trans he58 he61)
   replace hb9:=hb9.ext he61
   have hm66:=Ext.trans he18 (Ext.trans he38 (Ext.trans he58 he61))
   replace hb14:=hb14.ext hm66
   refine⟨okY,?_,?_,?_,?_,?_,?_,?_,?_,?_,?_,?_⟩
   ·exact(by repeat (first|exact hoff64|refine Off.st ?_ dC _))
   ·rfl
   ·exact λh=>⟨hokX,h⟩
   ·exact hx
   ·exact hy
   ·exact hdx
   ·exact hdy
   ·exact hE
   ·exact hb4
   ·exact hb9
   exact hb14
  have hb65p:=hb65
  refine RL.gno rfl rfl (aD hb65) rfl dC ?_
  refine rV (eP (v:=(.bool false)) (aD hb65) rfl) (RL.nil ?_)
  replace hx:=hx.tr (Sm.ext (Ext.trans he58 he61))
  replace hy:=hy.tr (Sm.ext he61)
  replace hdx:=hdx.tr (Sm.ext (Ext.trans he58 he61))
  replace hdy:=hdy.tr (Sm.ext he61)
  replace hb4:=hb4.ext (Ext.trans he58 he61)
  replace hb9:=hb9.ext he61
  have hm67:=Ext.trans he18 (Ext.trans he38 (Ext.trans he58 he61))
  replace hb14:=hb14.ext hm67
  refine⟨false,?_,?_,?_,?_,?_,?_,?_,?_,?_,?_,?_⟩
  ·exact(by repeat (first|exact hoff64|refine Off.st ?_ dC _))
  ·rfl
  ·exact λh=>by cases h
  ·exact hx
  ·exact hy
  ·exact hdx
  ·exact hdy
  ·exact hE
  ·exact hb4
  ·exact hb9
  exact hb14
 clear hx hy hdx hdy hE hb4 hb9 hb14
 rintro f68 w69 ⟨t,hoff70,hs71,ht,hx,hy,hdx,hdy,hE,hb4,hb9,hb14⟩
 refine kO (b:=t) hs71 (λhb72=>?_) (λhb72=>?_)
 ·have hb72p:=hb72
  have hsx1:=hsX (ht hb72).1
  have hsy1:=hsY (ht hb72).2
  refine bB ?_
  have hm1:=mJ (a:=nX) (b:=dY) ⟨by omega,by omega⟩ ⟨by omega,by omega⟩
  have hm2:=mJ (a:=nY) (b:=dX) ⟨by omega,by omega⟩ ⟨by omega,by omega⟩
  have hm3:=mJ (a:=dX) (b:=dY) ⟨by omega,by omega⟩ ⟨by omega,by omega⟩
  have hm4:=mJ (a:=nX) (b:=nY) ⟨by omega,by omega⟩ ⟨by omega,by omega⟩
  have hmp:=Int.mul_pos hsx1.2.2.1 hsy1.2.2.1
  refine aV (mV (v:=(iv nX)) ((hoff70 5 rfl).trans (hF63 5)) (mV (v:=(iv dY)) ((hoff70 9 rfl).trans (hF63 9)) (rV (jX (k:=.i64) (a:=nX) (b:=dY) (c:=nX*dY) rfl rfl (dJ oM)) (mV (v:=(iv nY)) ((hoff70 8 rfl).trans (hF63 8)) (mV (v:=(iv dX)) ((hoff70 6 rfl).trans (hF63 6)) ?_)))))
  refine rV (jX (k:=.i64) (a:=nY) (b:=dX) (c:=nY*dX) rfl rfl (dJ oM)) (rV (dP (k:=.i64) (a:=nX*dY) (b:=nY*dX) (c:=(nX*dY)+(nY*dX)) rfl rfl (dJ oM)) (mV (v:=(iv dX)) ((hoff70 6 rfl).trans (hF63 6)) (mV (v:=(iv dY)) ((hoff70 9 rfl).trans (hF63 9)) (rV (jX (k:=.i64) (a:=dX) (b:=dY) (c:=dX*dY) rfl rfl (dJ oM)) ?_))))
  refine cL aKx (aCy oM oM) rfl ?_
  rintro _ w73 ⟨⟨vn75,vd77,rfl,hn76,hd78,hl79,hl80⟩,he74⟩
  have hlv81:=dS (Rat.divInt ((nX*dY)+(nY*dX)) (dX*dY))
  replace hn76:=hn76.fr hE
  replace hd78:=hd78.fr hE
  replace hE:=hE.nx he74
  replace hb14:=hb14.ext he74
  refine RL.runs rfl rfl (bQ (vv:=(.agg #[(bd ((Rat.divInt ((nX*dY)+(nY*dX)) (dX*dY)).num<0)),vn75,vd77])) (cs:=[(bd ((Rat.divInt ((nX*dY)+(nY*dX)) (dX*dY)).num<0)),vn75,vd77]) (o:=0) dF ((hoff70 4 rfl).trans (hF63 4)) rfl rfl rfl (aF rfl (aF hn76.one (aF hd78.one bU))) hb14 bL) ?_
  rintro w82 ⟨hn83,hx84,hz85⟩
  replace hE:=hE.nb hx84 ge_b12
  have nb_hx84:=(Nb.of hb14 (aH rfl (aH rfl (aH rfl cG))))
  replace hb14:Bk w82 b12 51 [(bd ((Rat.divInt ((nX*dY)+(nY*dX)) (dX*dY)).num<0)),vn75,vd77]:=hn83
  refine RL.nil ?_
  refine cE ?_
  refine⟨[(.agg #[(bd ((Rat.divInt ((nX*dY)+(nY*dX)) (dX*dY)).num<0)),vn75,vd77])],⟨⟨_,_,[(bd ((Rat.divInt ((nX*dY)+(nY*dX)) (dX*dY)).num<0)),vn75,vd77],((hoff70 4 rfl).trans (hF63 4)),⟨_,dT⟩,hb14.cells rfl,.inl ⟨fH,⟨_,_,dF⟩,rfl⟩⟩,trivial⟩,?_⟩
  have hlr:=kV qx qy
  have hq:(Rat.divInt ((nX*dY)+(nY*dX)) (dX*dY))=(qx+qy):=by first|(rw[hx0,Rat.zero_add];done)|(rw[hy0,Rat.add_zero];done)|exact eI hsx1.2.2.1 hsy1.2.2.1 hsx1.2.2.2.2 hsy1.2.2.2.2|exact kU oM eqX (by rw[hxd];exact eqY)|(rw[Int.natCast_mul];exact eI (by rw[sg_f];omega) (by rw[sg_f];omega) eqX eqY)
  replace hn76:=hn76.apn hx84 nb_hx84
  replace hd78:=hd78.apn hx84 nb_hx84
  exact⟨⟨_,_,pT (congrArg (λz:Rat=>decide (z.num<0)) hq),by rw[<-hq];exact hn76,by rw[<-hq];exact hd78,by omega,by omega⟩,hE⟩
 have hb72p:=hb72
 refine bW ?_
 refine wsr ?_
 have hc86:=hb4.cells (o:=0) (cs:=[(.bool sx),vx,ux]) rfl
 refine rV (bX (o:=0) (cs:=[(.bool sx),vx,ux]) dT fH dF ((hoff70 2 rfl).trans (hF63 2)) hc86) ?_
 refine RL.call rfl rfl dC (bO (vl:=[(.agg #[(.bool sx),vx,ux])]) sF rfl) (kA hx (by assumption) oS hdx (by assumption) oS (show dE sx (val x) (val dx)=qx from ex)) ?_
 rintro _ w87 ⟨⟨sX,vnX,vdX,xnX,xdX,rfl,hnX,lmnX,lnnX,hdX,lmdX,lndX,nzX,eqX⟩,he88⟩
 replace hE:=hE.nx he88
 refine mV (v:=(.tuple #[(.agg #[(.bool sX),vnX]),vdX])) rfl (rV (aI (v:=(.agg #[(.bool sX),vnX])) rfl rfl) (rV (aI (v:=vdX) rfl rfl) ?_))
 refine rU (cZ (cs:=[(.bool false),(.slice none 0 0)]) cO rfl) ?_
 rintro _ w89 ⟨b90,rfl,hs93,hb92,he91⟩
 replace hb14:=hb14.ext he88
 have lt_b12_b90:=Nat.lt_of_lt_of_eq hb14.lt hs93.symm
 have ge_b90:=hE.ge hs93
 replace hE:=hE.nx he91
 refine RL.runs rfl rfl (bQ (vv:=(.agg #[(.bool sX),vnX])) (cs:=[(.bool sX),vnX]) (o:=0) cO rfl rfl rfl rfl (aF rfl (aF hnX.one bU)) hb92 bL) ?_
 rintro w94 ⟨hn95,hx96,hz97⟩
 replace hE:=hE.nb hx96 ge_b90
 have nb_hx96:=(Nb.of hb92 (aH rfl (aH rfl cG)))
 replace hb92:Bk w94 b90 49 [(.bool sX),vnX]:=hn95
 refine aS (v:=vdX) rfl (RL.nil (wsr ?_))
 replace hb9:=(hb9.ext (Ext.trans he88 he91)).exc hx96 (Nat.ne_of_lt (Nat.lt_trans lt_b7_b12 lt_b12_b90))
 have hc98:=hb9.cells (o:=0) (cs:=[(.bool sy),vy,uy]) rfl
 refine rV (bX (o:=0) (cs:=[(.bool sy),vy,uy]) dT fH dF ((hoff70 3 rfl).trans (hF63 3)) hc98) ?_
 replace hy:=(hy.tr (Sm.ext (Ext.trans he88 he91))).apn hx96 nb_hx96
 replace hdy:=(hdy.tr (Sm.ext (Ext.trans he88 he91))).apn hx96 nb_hx96
 refine RL.call rfl rfl dC (bO (vl:=[(.agg #[(.bool sy),vy,uy])]) sF rfl) (kA hy (by assumption) oS hdy (by assumption) oS (show dE sy (val y) (val dy)=qy from ey)) ?_
 rintro _ w99 ⟨⟨sY,vnY,vdY,xnY,xdY,rfl,hnY,lmnY,lnnY,hdY,lmdY,lndY,nzY,eqY⟩,he100⟩
 replace hE:=hE.nx he100
 refine mV (v:=(.tuple #[(.agg #[(.bool sY),vnY]),vdY])) rfl (rV (aI (v:=(.agg #[(.bool sY),vnY])) rfl rfl) (rV (aI (v:=vdY) rfl rfl) ?_))
 refine rU (cZ (cs:=[(.bool false),(.slice none 0 0)]) cO rfl) ?_
 rintro _ w101 ⟨b102,rfl,hs105,hb104,he103⟩
 replace hb92:=hb92.ext he100
 have lt_b90_b102:=Nat.lt_of_lt_of_eq hb92.lt hs105.symm
 have ge_b102:=hE.ge hs105
 replace hE:=hE.nx he103
 refine RL.runs rfl rfl (bQ (vv:=(.agg #[(.bool sY),vnY])) (cs:=[(.bool sY),vnY]) (o:=0) cO rfl rfl rfl rfl (aF rfl (aF hnY.one bU)) hb104 bL) ?_
 rintro w106 ⟨hn107,hx108,hz109⟩
 replace hE:=hE.nb hx108 ge_b102
 have nb_hx108:=(Nb.of hb104 (aH rfl (aH rfl cG)))
 replace hb104:Bk w106 b102 49 [(.bool sY),vnY]:=hn107
 refine aS (v:=vdY) rfl (RL.nil (bB (wsr (mV (v:=vdX) rfl (mV (v:=vdY) rfl ?_)))))
 replace hdX:=(((hdX.tr (Sm.ext he91)).apn hx96 nb_hx96).tr (Sm.ext (Ext.trans he100 he103))).apn hx108 nb_hx108
 replace hdY:=(hdY.tr (Sm.ext he103)).apn hx108 nb_hx108
 refine cL mU (gO hdX lmdX oS hdY lmdY oS) rfl ?_
 rintro vq113 w110 ⟨hq112,he111⟩
 subst hq112
 replace hE:=hE.nx he111
 refine rV (iW (k:=.i64) (a:=cmpI (((val xdX):Nat):Int) (((val xdY):Nat):Int)) (b:=0) rfl rfl) (RL.nil ?_)
 refine wcD (p:=(cmpI (((val xdX):Nat):Int) (((val xdY):Nat):Int))=0) rfl (λhb114 hb114p=>?_) (λhb114 hb114p=>?_)
 ·have hxd:val xdX=val xdY:=by have h9:=kT.1 hb114p;omega
  refine wsr ?_
  replace hb92:=((hb92.ext he103).exc hx108 (Nat.ne_of_lt lt_b90_b102)).ext he111
  have hc115:=hb92.cells (o:=0) (cs:=[(.bool sX),vnX]) rfl
  refine rV (bX (o:=0) (cs:=[(.bool sX),vnX]) cQ iB cO rfl hc115) ?_
  replace hb104:=hb104.ext he111
  have hc116:=hb104.cells (o:=0) (cs:=[(.bool sY),vnY]) rfl
  refine rV (bX (o:=0) (cs:=[(.bool sY),vnY]) cQ iB cO rfl hc116) ?_
  replace hnX:=((((hnX.tr (Sm.ext he91)).apn hx96 nb_hx96).tr (Sm.ext (Ext.trans he100 he103))).apn hx108 nb_hx108).tr (Sm.ext he111)
  replace hnY:=((hnY.tr (Sm.ext he103)).apn hx108 nb_hx108).tr (Sm.ext he111)
  refine RL.call rfl rfl dC (bO (vl:=[(.agg #[(.bool sX),vnX]),(.agg #[(.bool sY),vnY])]) uF rfl) (aAt hnX lmnX oS rfl hnY lmnY oS rfl) ?_
  rintro _ w117 ⟨⟨vr119,rfl,hr120,hl121⟩,he118⟩
  replace hr120:=hr120.fr hE
  replace hE:=hE.nx he118
  refine mV (v:=vdX) rfl ?_
  replace hdX:=hdX.tr (Sm.ext (Ext.trans he111 he118))
  refine RL.call rfl rfl dC (bO (vl:=[(.agg #[(bd (((sg sX (val xnX))+(sg sY (val xnY)))<0)),vr119]),vdX]) aGd rfl) (pU hr120 (aR _) oS (aU _) hdX lmdX oS (by first|assumption|exact hnz)) ?_
  rintro vv130 w122 ⟨⟨vn124,vd126,hv131,hn125,hd127,hl128,hl129⟩,he123⟩
  subst hv131
  have hlv132:=dS (Rat.divInt ((sg sX (val xnX))+(sg sY (val xnY))) (((val xdX):Nat):Int))
  replace hn125:=hn125.fr hE
  replace hd127:=hd127.fr hE
  replace hE:=hE.nx he123
  have hm137:=Ext.trans he111 (Ext.trans he118 he123)
  replace hb14:=((((hb14.ext he91).exc hx96 (Nat.ne_of_lt lt_b12_b90)).ext (Ext.trans he100 he103)).exc hx108 (Nat.ne_of_lt (Nat.lt_trans lt_b12_b90 lt_b90_b102))).ext hm137
  refine RL.runs rfl rfl (bQ (vv:=(.agg #[(bd ((Rat.divInt ((sg sX (val xnX))+(sg sY (val xnY))) (((val xdX):Nat):Int)).num<0)),vn124,vd126])) (cs:=[(bd ((Rat.divInt ((sg sX (val xnX))+(sg sY (val xnY))) (((val xdX):Nat):Int)).num<0)),vn124,vd126]) (o:=0) dF ((hoff70 4 rfl).trans (hF63 4)) rfl rfl rfl (aF rfl (aF hn125.one (aF hd127.one bU))) hb14 bL) ?_
  rintro w133 ⟨hn134,hx135,hz136⟩
  replace hE:=hE.nb hx135 ge_b12
  have nb_hx135:=(Nb.of hb14 (aH rfl (aH rfl (aH rfl cG))))
  replace hb14:Bk w133 b12 51 [(bd ((Rat.divInt ((sg sX (val xnX))+(sg sY (val xnY))) (((val xdX):Nat):Int)).num<0)),vn124,vd126]:=hn134
  refine RL.nil ?_
  refine cE ?_
  refine⟨[(.agg #[(bd ((Rat.divInt ((sg sX (val xnX))+(sg sY (val xnY))) (((val xdX):Nat):Int)).num<0)),vn124,vd126])],⟨⟨_,_,[(bd ((Rat.divInt ((sg sX (val xnX))+(sg sY (val xnY))) (((val xdX):Nat):Int)).num<0)),vn124,vd126],((hoff70 4 rfl).trans (hF63 4)),⟨_,dT⟩,hb14.cells rfl,.inl ⟨fH,⟨_,_,dF⟩,rfl⟩⟩,trivial⟩,?_⟩
  have hlr:=kV qx qy
  have hq:(Rat.divInt ((sg sX (val xnX))+(sg sY (val xnY))) (((val xdX):Nat):Int))=(qx+qy):=by first|(rw[hx0,Rat.zero_add];done)|(rw[hy0,Rat.add_zero];done)|exact eI hsx1.2.2.1 hsy1.2.2.1 hsx1.2.2.2.2 hsy1.2.2.2.2|exact kU oM eqX (by rw[hxd];exact eqY)|(rw[Int.natCast_mul];exact eI (by rw[sg_f];omega) (by rw[sg_f];omega) eqX eqY)
  replace hn125:=hn125.apn hx135 nb_hx135
  replace hd127:=hd127.apn hx135 nb_hx135
  exact⟨⟨_,_,pT (congrArg (λz:Rat=>decide (z.num<0)) hq),by rw[<-hq];exact hn125,by rw[<-hq];exact hd127,by omega,by omega⟩,hE⟩
 refine bW ?_
 refine cV λF138 hF139=>?_
 refine oI (λfl wl=>∃b161:Nat,∃vr146:Value,∃vr151:Value,∃vr157:Value,Off (15::(rg 72 9 [])) F138 fl∧fl 15=(.pointer (some ⟨b161,0,none⟩))∧(w.heap.size<=b161)∧(b102<b161)∧(Sg (gN .u32) Dx wl vx x)∧(Sg (gN .u32) Dy wl vy y)∧(Sg (gN .u32) Ex wl ux dx)∧(Sg (gN .u32) Ey wl uy dy)∧(Below w.heap.size w wl)∧(Bk wl b2 51 [(.bool sx),vx,ux])∧(Bk wl b7 51 [(.bool sy),vy,uy])∧(Bk wl b12 51 [(.bool false),(.slice none 0 0),(.slice none 0 0)])∧(Sg (gN .u32) (λ_ _=>True) wl vnX xnX)∧(Sg (gN .u32) (λ_ _=>True) wl vdX xdX)∧(Bk wl b90 49 [(.bool sX),vnX])∧(Sg (gN .u32) (λ_ _=>True) wl vnY xnY)∧(Sg (gN .u32) (λ_ _=>True) wl vdY xdY)∧(Bk wl b102 49 [(.bool sY),vnY])∧(Sg (gN .u32) (λb T=>w.heap.size<=b∧T=131) wl vr146 (aB ((sg sX (val xnX))*(sg false (val xdY))).natAbs))∧(Sg (gN .u32) (λb T=>w.heap.size<=b∧T=131) wl vr151 (aB ((sg sY (val xnY))*(sg false (val xdX))).natAbs))∧(Sg (gN .u32) (λb T=>w.heap.size<=b∧T=131) wl vr157 (aB (((sg sX (val xnX))*(sg false (val xdY)))+((sg sY (val xnY))*(sg false (val xdX)))).natAbs))∧(Bk wl b161 49 [(bd ((((sg sX (val xnX))*(sg false (val xdY)))+((sg sY (val xnY))*(sg false (val xdX))))<0)),vr157])) ?_ ?_
 ·have hoff170:=Off.refl (15::(rg 72 9 [])) F138
  refine fI fV λw171 he172=>?_
  replace hE:=hE.nx he172
  replace hb92:=((hb92.ext he103).exc hx108 (Nat.ne_of_lt lt_b90_b102)).ext (Ext.trans he111 he172)
  have hc173:=hb92.cells (o:=0) (cs:=[(.bool sX),vnX]) rfl
  refine RA.rd 0 rfl kR rfl rfl rfl dC (Ext.refl _) (λu hu=>bX (o:=0) (cs:=[(.bool sX),vnX]) cQ iB cO (hF139 11) (λj v hj=>bT hu (hc173 j v hj))) ?_
  refine ra 1 rfl (λ_=>aG (v:=vdY) (hF139 14)) ?_
  refine ra 2 rfl (λ_=>eR (vl:=[(1,vdY)]) (cs:=[(.bool false),vdY]) cQ cO rfl (aAn cQ) (by obtain⟨_,_,e0_,-,-⟩:=hdY.len;simp only[e0_];rfl)) ?_
  replace hb104:=hb104.ext (Ext.trans he111 he172)
  have hc174:=hb104.cells (o:=0) (cs:=[(.bool sY),vnY]) rfl
  refine RA.rd 4 rfl kR rfl rfl rfl dC (Ext.refl _) (λu hu=>bX (o:=0) (cs:=[(.bool sY),vnY]) cQ iB cO (hF139 13) (λj v hj=>bT hu (hc174 j v hj))) ?_
  refine ra 5 rfl (λ_=>aG (v:=vdX) (hF139 12)) ?_
  refine ra 6 rfl (λ_=>eR (vl:=[(1,vdX)]) (cs:=[(.bool false),vdX]) cQ cO rfl (aAn cQ) (by obtain⟨_,_,e0_,-,-⟩:=hdX.len;simp only[e0_];rfl)) ?_
  refine RA.all [3,9] kR rfl ?_
  replace hnX:=((((hnX.tr (Sm.ext he91)).apn hx96 nb_hx96).tr (Sm.ext (Ext.trans he100 he103))).apn hx108 nb_hx108).tr (Sm.ext (Ext.trans he111 he172))
  replace hdY:=hdY.tr (Sm.ext (Ext.trans he111 he172))
  refine RS.call rfl rfl rfl dC (bO (vl:=[(.agg #[(.bool sX),vnX]),(.agg #[(.bool false),vdY])]) sG rfl) (sI hnX lmnX oS rfl hdY lmdY oS rfl) ?_ ?_
  ·rintro _ w175 ⟨⟨vr177,rfl,hr178,hl179⟩,he176⟩
   refine rm he176 ?_
   replace hr178:=hr178.fr hE
   replace hE:=hE.nx he176
   refine RA.all [7,9] kR rfl ?_
   have hm185:=Ext.trans he111 (Ext.trans he172 he176)
   replace hnY:=((hnY.tr (Sm.ext he103)).apn hx108 nb_hx108).tr (Sm.ext hm185)
   replace hdX:=hdX.tr (Sm.ext hm185)
   refine RS.call rfl rfl rfl dC (bO (vl:=[(.agg #[(.bool sY),vnY]),(.agg #[(.bool false),vdX])]) sG rfl) (sI hnY lmnY oS rfl hdX lmdX oS rfl) ?_ ?_
   ·rintro _ w180 ⟨⟨vr182,rfl,hr183,hl184⟩,he181⟩
    refine rm he181 ?_
    replace hr183:=hr183.fr hE
    replace hE:=hE.nx he181
    refine RA.all [8,9] kR rfl ?_
    replace hr178:=hr178.tr (Sm.ext he181)
    refine RS.call rfl rfl rfl dC (bO (vl:=[(.agg #[(bd (((sg sX (val xnX))*(sg false (val xdY)))<0)),vr177]),(.agg #[(bd (((sg sY (val xnY))*(sg false (val xdX)))<0)),vr182])]) uF rfl) (aAt hr178 (aR _) oS (aU _) hr183 (aR _) oS (aU _)) ?_ ?_
    ·rintro _ w186 ⟨⟨vr188,rfl,hr189,hl190⟩,he187⟩
     refine rm he187 ?_
     replace hr189:=hr189.fr hE
     replace hE:=hE.nx he187
     refine RA.all [9] kR rfl ?_
     refine RS.run rfl rfl rfl dC (cZ (cs:=[(.bool false),(.slice none 0 0)]) cO rfl) ?_ RS.nil
     rintro _ w191 ⟨b192,rfl,hs195,hb194,he193⟩
     refine rm he193 ?_
     have hm196:=Ext.trans he176 (Ext.trans he181 he187)
     replace hb104:=hb104.ext hm196
     have lt_b102_b192:=Nat.lt_of_lt_of_eq hb104.lt hs195.symm
     have ge_b192:=hE.ge hs195
     replace hE:=hE.nx he193
     refine RA.all [10] kR rfl ?_
     refine RS.runs rfl rfl rfl (bQ (vv:=(.agg #[(bd ((((sg sX (val xnX))*(sg false (val xdY)))+((sg sY (val xnY))*(sg false (val xdX))))<0)),vr188])) (cs:=[(bd ((((sg sX (val xnX))*(sg false (val xdY)))+((sg sY (val xnY))*(sg false (val xdX))))<0)),vr188]) (o:=0) cO rfl rfl rfl rfl (aF rfl (aF hr189.one bU)) hb194 bL) ?_ RS.nil
     rintro w197 ⟨hn198,hx199,hz200⟩
     refine⟨.inr (.inl kR),?_⟩
     replace hE:=hE.nb hx199 ge_b192
     have nb_hx199:=(Nb.of hb194 (aH rfl (aH rfl cG)))
     replace hb194:Bk w197 b192 49 [(bd ((((sg sX (val xnX))*(sg false (val xdY)))+((sg sY (val xnY))*(sg false (val xdX))))<0)),vr188]:=hn198
     refine RA.done kR ?_
     have hm201:=Ext.trans he111 (Ext.trans he172 (Ext.trans he176 (Ext.trans he181 (Ext.trans he187 he193))))
     replace hx:=(((((hx.tr (Sm.ext (Ext.trans he88 he91))).apn hx96 nb_hx96).tr (Sm.ext (Ext.trans he100 he103))).apn hx108 nb_hx108).tr (Sm.ext hm201)).apn hx199 nb_hx199
     replace hy:=(((hy.tr (Sm.ext (Ext.trans he100 he103))).apn hx108 nb_hx108).tr (Sm.ext hm201)).apn hx199 nb_hx199
     replace hdx:=(((((hdx.tr (Sm.ext (Ext.trans he88 he91))).apn hx96 nb_hx96).tr (Sm.ext (Ext.trans he100 he103))).apn hx108 nb_hx108).tr (Sm.ext hm201)).apn hx199 nb_hx199
     replace hdy:=(((hdy.tr (Sm.ext (Ext.trans he100 he103))).apn hx108 nb_hx108).tr (Sm.ext hm201)).apn hx199 nb_hx199
     replace hb4:=(((((hb4.ext (Ext.trans he88 he91)).exc hx96 (Nat.ne_of_lt (Nat.lt_trans lt_b2_b7 (Nat.lt_trans lt_b7_b12 lt_b12_b90)))).ext (Ext.trans he100 he103)).exc hx108 (Nat.ne_of_lt (Nat.lt_trans lt_b2_b7 (Nat.lt_trans lt_b7_b12 (Nat.lt_trans lt_b12_b90 lt_b90_b102))))).ext hm201).exc hx199 (Nat.ne_of_lt (Nat.lt_trans lt_b2_b7 (Nat.lt_trans lt_b7_b12 (Nat.lt_trans lt_b12_b90 (Nat.lt_trans lt_b90_b102 lt_b102_b192)))))
     replace hb9:=(((hb9.ext (Ext.trans he100 he103)).exc hx108 (Nat.ne_of_lt (Nat.lt_trans lt_b7_b12 (Nat.lt_trans lt_b12_b90 lt_b90_b102)))).ext hm201).exc hx199 (Nat.ne_of_lt (Nat.lt_trans lt_b7_b12 (Nat.lt_trans lt_b12_b90 (Nat.lt_trans lt_b90_b102 lt_b102_b192))))
     replace hb14:=(((((hb14.ext he91).exc hx96 (Nat.ne_of_lt lt_b12_b90)).ext (Ext.trans he100 he103)).exc hx108 (Nat.ne_of_lt (Nat.lt_trans lt_b12_b90 lt_b90_b102))).ext hm201).exc hx199 (Nat.ne_of_lt (Nat.lt_trans lt_b12_b90 (Nat.lt_trans lt_b90_b102 lt_b102_b192)))
     have hm202:=Ext.trans hm196 he193
     replace hnX:=(hnX.tr (Sm.ext hm202)).apn hx199 nb_hx199
     have hm203:=Ext.trans he181 (Ext.trans he187 he193)
     replace hdX:=(hdX.tr (Sm.ext hm203)).apn hx199 nb_hx199
     replace hb92:=(hb92.ext hm202).exc hx199 (Nat.ne_of_lt (Nat.lt_trans lt_b90_b102 lt_b102_b192))
     replace hnY:=(hnY.tr (Sm.ext hm203)).apn hx199 nb_hx199
     replace hdY:=(hdY.tr (Sm.ext hm202)).apn hx199 nb_hx199
     replace hb104:=(hb104.ext he193).exc hx199 (Nat.ne_of_lt lt_b102_b192)
     replace hr178:=(hr178.tr (Sm.ext (Ext.trans he187 he193))).apn hx199 nb_hx199
     replace hr183:=(hr183.tr (Sm.ext (Ext.trans he187 he193))).apn hx199 nb_hx199
     replace hr189:=(hr189.tr (Sm.ext he193)).apn hx199 nb_hx199
     refine⟨b192,vr177,vr182,vr188,?_,?_,?_,?_,?_,?_,?_,?_,?_,?_,?_,?_,?_,?_,?_,?_,?_,?_,?_,?_,?_,?_⟩
     ·exact(by repeat (first|exact hoff170|refine Off.st ?_ dC _|refine Off.via hoff70 dC ?_|refine Off.eq hF63 ?_))
     ·exact rfl
     ·exact ge_b192
     ·exact lt_b102_b192
     ·exact hx
     ·exact hy
     ·exact hdx
     ·exact hdy
     ·exact hE
     ·exact hb4
     ·exact hb9
     ·exact hb14
     ·exact hnX
     ·exact hdX
     ·exact hb92
     ·exact hnY
     ·exact hdY
     ·exact hb104
     ·exact hr178
     ·exact hr183
     ·exact hr189
     exact hb194
    refine RS.run rfl rfl rfl dC (cZ (cs:=[(.bool false),(.slice none 0 0)]) cO rfl) ?_ RS.nil
    rintro _ w204 ⟨b205,rfl,hs208,hb207,he206⟩
    refine rm he206 ?_
    replace hb104:=hb104.ext (Ext.trans he176 he181)
    have lt_b102_b205:=Nat.lt_of_lt_of_eq hb104.lt hs208.symm
    have ge_b205:=hE.ge hs208
    replace hE:=hE.nx he206
    refine RA.all [8] kR rfl ?_
    replace hr178:=hr178.tr (Sm.ext he206)
    replace hr183:=hr183.tr (Sm.ext he206)
    refine RS.call rfl rfl rfl dC (bO (vl:=[(.agg #[(bd (((sg sX (val xnX))*(sg false (val xdY)))<0)),vr177]),(.agg #[(bd (((sg sY (val xnY))*(sg false (val xdX)))<0)),vr182])]) uF rfl) (aAt hr178 (aR _) oS (aU _) hr183 (aR _) oS (aU _)) ?_ RS.nil
    rintro _ w209 ⟨⟨vr211,rfl,hr212,hl213⟩,he210⟩
    refine rm he210 ?_
    replace hr212:=hr212.fr hE
    replace hE:=hE.nx he210
    refine RA.all [10] kR rfl ?_
    replace hb207:=hb207.ext he210
    refine RS.runs rfl rfl rfl (bQ (vv:=(.agg #[(bd ((((sg sX (val xnX))*(sg false (val xdY)))+((sg sY (val xnY))*(sg false (val xdX))))<0)),vr211])) (cs:=[(bd ((((sg sX (val xnX))*(sg false (val xdY)))+((sg sY (val xnY))*(sg false (val xdX))))<0)),vr211]) (o:=0) cO rfl rfl rfl rfl (aF rfl (aF hr212.one bU)) hb207 bL) ?_ RS.nil
    rintro w214 ⟨hn215,hx216,hz217⟩
    refine⟨.inr (.inl kR),?_⟩
    replace hE:=hE.nb hx216 ge_b205
    have nb_hx216:=(Nb.of hb207 (aH rfl (aH rfl cG)))
    replace hb207:Bk w214 b205 49 [(bd ((((sg sX (val xnX))*(sg false (val xdY)))+((sg sY (val xnY))*(sg false (val xdX))))<0)),vr211]:=hn215
    refine RA.done kR ?_
    have hm218:=Ext.trans he111 (Ext.trans he172 (Ext.trans he176 (Ext.trans he181 (Ext.trans he206 he210))))
    replace hx:=(((((hx.tr (Sm.ext (Ext.trans he88 he91))).apn hx96 nb_hx96).tr (Sm.ext (Ext.trans he100 he103))).apn hx108 nb_hx108).tr (Sm.ext hm218)).apn hx216 nb_hx216
    replace hy:=(((hy.tr (Sm.ext (Ext.trans he100 he103))).apn hx108 nb_hx108).tr (Sm.ext hm218)).apn hx216 nb_hx216
    replace hdx:=(((((hdx.tr (Sm.ext (Ext.trans he88 he91))).apn hx96 nb_hx96).tr (Sm.ext (Ext.trans he100 he103))).apn hx108 nb_hx108).tr (Sm.ext hm218)).apn hx216 nb_hx216
    replace hdy:=(((hdy.tr (Sm.ext (Ext.trans he100 he103))).apn hx108 nb_hx108).tr (Sm.ext hm218)).apn hx216 nb_hx216
    replace hb4:=(((((hb4.ext (Ext.trans he88 he91)).exc hx96 (Nat.ne_of_lt (Nat.lt_trans lt_b2_b7 (Nat.lt_trans lt_b7_b12 lt_b12_b90)))).ext (Ext.trans he100 he103)).exc hx108 (Nat.ne_of_lt (Nat.lt_trans lt_b2_b7 (Nat.lt_trans lt_b7_b12 (Nat.lt_trans lt_b12_b90 lt_b90_b102))))).ext hm218).exc hx216 (Nat.ne_of_lt (Nat.lt_trans lt_b2_b7 (Nat.lt_trans lt_b7_b12 (Nat.lt_trans lt_b12_b90 (Nat.lt_trans lt_b90_b102 lt_b102_b205)))))
    replace hb9:=(((hb9.ext (Ext.trans he100 he103)).exc hx108 (Nat.ne_of_lt (Nat.lt_trans lt_b7_b12 (Nat.lt_trans lt_b12_b90 lt_b90_b102)))).ext hm218).exc hx216 (Nat.ne_of_lt (Nat.lt_trans lt_b7_b12 (Nat.lt_trans lt_b12_b90 (Nat.lt_trans lt_b90_b102 lt_b102_b205))))
    replace hb14:=(((((hb14.ext he91).exc hx96 (Nat.ne_of_lt lt_b12_b90)).ext (Ext.trans he100 he103)).exc hx108 (Nat.ne_of_lt (Nat.lt_trans lt_b12_b90 lt_b90_b102))).ext hm218).exc hx216 (Nat.ne_of_lt (Nat.lt_trans lt_b12_b90 (Nat.lt_trans lt_b90_b102 lt_b102_b205)))
    have hm219:=Ext.trans he176 (Ext.trans he181 (Ext.trans he206 he210))
    replace hnX:=(hnX.tr (Sm.ext hm219)).apn hx216 nb_hx216
    have hm220:=Ext.trans he181 (Ext.trans he206 he210)
    replace hdX:=(hdX.tr (Sm.ext hm220)).apn hx216 nb_hx216
    replace hb92:=(hb92.ext hm219).exc hx216 (Nat.ne_of_lt (Nat.lt_trans lt_b90_b102 lt_b102_b205))
    replace hnY:=(hnY.tr (Sm.ext hm220)).apn hx216 nb_hx216
    replace hdY:=(hdY.tr (Sm.ext hm219)).apn hx216 nb_hx216
    replace hb104:=(hb104.ext (Ext.trans he206 he210)).exc hx216 (Nat.ne_of_lt lt_b102_b205)
    replace hr178:=(hr178.tr (Sm.ext he210)).apn hx216 nb_hx216
    replace hr183:=(hr183.tr (Sm.ext he210)).apn hx216 nb_hx216
    replace hr212:=hr212.apn hx216 nb_hx216
    refine⟨b205,vr177,vr182,vr211,?_,?_,?_,?_,?_,?_,?_,?_,?_,?_,?_,?_,?_,?_,?_,?_,?_,?_,?_,?_,?_,?_⟩
    ·exact(by repeat (first|exact hoff170|refine Off.st ?_ dC _|refine Off.via hoff70 dC ?_|refine Off.eq hF63 ?_))
    ·exact rfl
    ·exact ge_b205
    ·exact lt_b102_b205
    ·exact hx
    ·exact hy
    ·exact hdx
    ·exact hdy
    ·exact hE
    ·exact hb4
    ·exact hb9
    ·exact hb14
    ·exact hnX
    ·exact hdX
    ·exact hb92
    ·exact hnY
    ·exact hdY
    ·exact hb104
    ·exact hr178
    ·exact hr183
    ·exact hr212
    exact hb207
   refine RS.run rfl rfl rfl dC (cZ (cs:=[(.bool false),(.slice none 0 0)]) cO rfl) ?_ RS.nil
   rintro _ w221 ⟨b222,rfl,hs225,hb224,he223⟩
   refine rm he223 ?_
   replace hb104:=hb104.ext he176
   have lt_b102_b222:=Nat.lt_of_lt_of_eq hb104.lt hs225.symm
   have ge_b222:=hE.ge hs225
   replace hE:=hE.nx he223
   refine RA.all [7] kR rfl ?_
   replace hnY:=hnY.tr (Sm.ext he223)
   replace hdX:=hdX.tr (Sm.ext he223)
   refine RS.call rfl rfl rfl dC (bO (vl:=[(.agg #[(.bool sY),vnY]),(.agg #[(.bool false),vdX])]) sG rfl) (sI hnY lmnY oS rfl hdX lmdX oS rfl) ?_ RS.nil
   rintro _ w226 ⟨⟨vr228,rfl,hr229,hl230⟩,he227⟩
   refine rm he227 ?_
   replace hr229:=hr229.fr hE
   replace hE:=hE.nx he227
   refine RA.all [8] kR rfl ?_
   replace hr178:=hr178.tr (Sm.ext (Ext.trans he223 he227))
   refine RS.call rfl rfl rfl dC (bO (vl:=[(.agg #[(bd (((sg sX (val xnX))*(sg false (val xdY)))<0)),vr177]),(.agg #[(bd (((sg sY (val xnY))*(sg false (val xdX)))<0)),vr228])]) uF rfl) (aAt hr178 (aR _) oS (aU _) hr229 (aR _) oS (aU _)) ?_ RS.nil
   rintro _ w231 ⟨⟨vr233,rfl,hr234,hl235⟩,he232⟩
   refine rm he232 ?_
   replace hr234:=hr234.fr hE
   replace hE:=hE.nx he232
   refine RA.all [10] kR rfl ?_
   replace hb224:=hb224.ext (Ext.trans he227 he232)
   refine RS.runs rfl rfl rfl (bQ (vv:=(.agg #[(bd ((((sg sX (val xnX))*(sg false (val xdY)))+((sg sY (val xnY))*(sg false (val xdX))))<0)),vr233])) (cs:=[(bd ((((sg sX (val xnX))*(sg false (val xdY)))+((sg sY (val xnY))*(sg false (val xdX))))<0)),vr233]) (o:=0) cO rfl rfl rfl rfl (aF rfl (aF hr234.one bU)) hb224 bL) ?_ RS.nil
   rintro w236 ⟨hn237,hx238,hz239⟩
   refine⟨.inr (.inl kR),?_⟩
   replace hE:=hE.nb hx238 ge_b222
   have nb_hx238:=(Nb.of hb224 (aH rfl (aH rfl cG)))
   replace hb224:Bk w236 b222 49 [(bd ((((sg sX (val xnX))*(sg false (val xdY)))+((sg sY (val xnY))*(sg false (val xdX))))<0)),vr233]:=hn237
   refine RA.done kR ?_
   have hm240:=Ext.trans he111 (Ext.trans he172 (Ext.trans he176 (Ext.trans he223 (Ext.trans he227 he232))))
   replace hx:=(((((hx.tr (Sm.ext (Ext.trans he88 he91))).apn hx96 nb_hx96).tr (Sm.ext (Ext.trans he100 he103))).apn hx108 nb_hx108).tr (Sm.ext hm240)).apn hx238 nb_hx238
   replace hy:=(((hy.tr (Sm.ext (Ext.trans he100 he103))).apn hx108 nb_hx108).tr (Sm.ext hm240)).apn hx238 nb_hx238
   replace hdx:=(((((hdx.tr (Sm.ext (Ext.trans he88 he91))).apn hx96 nb_hx96).tr (Sm.ext (Ext.trans he100 he103))).apn hx108 nb_hx108).tr (Sm.ext hm240)).apn hx238 nb_hx238
   replace hdy:=(((hdy.tr (Sm.ext (Ext.trans he100 he103))).apn hx108 nb_hx108).tr (Sm.ext hm240)).apn hx238 nb_hx238
   replace hb4:=(((((hb4.ext (Ext.trans he88 he91)).exc hx96 (Nat.ne_of_lt (Nat.lt_trans lt_b2_b7 (Nat.lt_trans lt_b7_b12 lt_b12_b90)))).ext (Ext.trans he100 he103)).exc hx108 (Nat.ne_of_lt (Nat.lt_trans lt_b2_b7 (Nat.lt_trans lt_b7_b12 (Nat.lt_trans lt_b12_b90 lt_b90_b102))))).ext hm240).exc hx238 (Nat.ne_of_lt (Nat.lt_trans lt_b2_b7 (Nat.lt_trans lt_b7_b12 (Nat.lt_trans lt_b12_b90 (Nat.lt_trans lt_b90_b102 lt_b102_b222)))))
   replace hb9:=(((hb9.ext (Ext.trans he100 he103)).exc hx108 (Nat.ne_of_lt (Nat.lt_trans lt_b7_b12 (Nat.lt_trans lt_b12_b90 lt_b90_b102)))).ext hm240).exc hx238 (Nat.ne_of_lt (Nat.lt_trans lt_b7_b12 (Nat.lt_trans lt_b12_b90 (Nat.lt_trans lt_b90_b102 lt_b102_b222))))
   replace hb14:=(((((hb14.ext he91).exc hx96 (Nat.ne_of_lt lt_b12_b90)).ext (Ext.trans he100 he103)).exc hx108 (Nat.ne_of_lt (Nat.lt_trans lt_b12_b90 lt_b90_b102))).ext hm240).exc hx238 (Nat.ne_of_lt (Nat.lt_trans lt_b12_b90 (Nat.lt_trans lt_b90_b102 lt_b102_b222)))
   have hm241:=Ext.trans he176 (Ext.trans he223 (Ext.trans he227 he232))
   replace hnX:=(hnX.tr (Sm.ext hm241)).apn hx238 nb_hx238
   replace hdX:=(hdX.tr (Sm.ext (Ext.trans he227 he232))).apn hx238 nb_hx238
   replace hb92:=(hb92.ext hm241).exc hx238 (Nat.ne_of_lt (Nat.lt_trans lt_b90_b102 lt_b102_b222))
   replace hnY:=(hnY.tr (Sm.ext (Ext.trans he227 he232))).apn hx238 nb_hx238
   replace hdY:=(hdY.tr (Sm.ext hm241)).apn hx238 nb_hx238
   have hm242:=Ext.trans he223 (Ext.trans he227 he232)
   replace hb104:=(hb104.ext hm242).exc hx238 (Nat.ne_of_lt lt_b102_b222)
   replace hr178:=(hr178.tr (Sm.ext he232)).apn hx238 nb_hx238
   replace hr229:=(hr229.tr (Sm.ext he232)).apn hx238 nb_hx238
   replace hr234:=hr234.apn hx238 nb_hx238
   refine⟨b222,vr177,vr228,vr233,?_,?_,?_,?_,?_,?_,?_,?_,?_,?_,?_,?_,?_,?_,?_,?_,?_,?_,?_,?_,?_,?_⟩
   ·exact(by repeat (first|exact hoff170|refine Off.st ?_ dC _|refine Off.via hoff70 dC ?_|refine Off.eq hF63 ?_))
   ·exact rfl
   ·exact ge_b222
   ·exact lt_b102_b222
   ·exact hx
   ·exact hy
   ·exact hdx
   ·exact hdy
   ·exact hE
   ·exact hb4
   ·exact hb9
   ·exact hb14
   ·exact hnX
   ·exact hdX
   ·exact hb92
   ·exact hnY
   ·exact hdY
   ·exact hb104
   ·exact hr178
   ·exact hr229
   ·exact hr234
   exact hb224
  refine RS.run rfl rfl rfl dC (cZ (cs:=[(.bool false),(.slice none 0 0)]) cO rfl) ?_ RS.nil
  rintro _ w243 ⟨b244,rfl,hs247,hb246,he245⟩
  refine rm he245 ?_
  have lt_b102_b244:=Nat.lt_of_lt_of_eq hb104.lt hs247.symm
  have ge_b244:=hE.ge hs247
  replace hE:=hE.nx he245
  refine RA.all [3] kR rfl ?_
  replace hnX:=hnX.tr (Sm.ext he245)
  replace hdY:=hdY.tr (Sm.ext he245)
  refine RS.call rfl rfl rfl dC (bO (vl:=[(.agg #[(.bool sX),vnX]),(.agg #[(.bool false),vdY])]) sG rfl) (sI hnX lmnX oS rfl hdY lmdY oS rfl) ?_ RS.nil
  rintro _ w248 ⟨⟨vr250,rfl,hr251,hl252⟩,he249⟩
  refine rm he249 ?_
  replace hr251:=hr251.fr hE
  replace hE:=hE.nx he249
  refine RA.all [7] kR rfl ?_
  have hm258:=Ext.trans he111 (Ext.trans he172 (Ext.trans he245 he249))
  replace hnY:=((hnY.tr (Sm.ext he103)).apn hx108 nb_hx108).tr (Sm.ext hm258)
  replace hdX:=hdX.tr (Sm.ext hm258)
  refine RS.call rfl rfl rfl dC (bO (vl:=[(.agg #[(.bool sY),vnY]),(.agg #[(.bool false),vdX])]) sG rfl) (sI hnY lmnY oS rfl hdX lmdX oS rfl) ?_ RS.nil
  rintro _ w253 ⟨⟨vr255,rfl,hr256,hl257⟩,he254⟩
  refine rm he254 ?_
  replace hr256:=hr256.fr hE
  replace hE:=hE.nx he254
  refine RA.all [8] kR rfl ?_
  replace hr251:=hr251.tr (Sm.ext he254)
  refine RS.call rfl rfl rfl dC (bO (vl:=[(.agg #[(bd (((sg sX (val xnX))*(sg false (val xdY)))<0)),vr250]),(.agg #[(bd (((sg sY (val xnY))*(sg false (val xdX)))<0)),vr255])]) uF rfl) (aAt hr251 (aR _) oS (aU _) hr256 (aR _) oS (aU _)) ?_ RS.nil
  rintro _ w259 ⟨⟨vr261,rfl,hr262,hl263⟩,he260⟩
  refine rm he260 ?_
  replace hr262:=hr262.fr hE
  replace hE:=hE.nx he260
  refine RA.all [10] kR rfl ?_
  have hm268:=Ext.trans he249 (Ext.trans he254 he260)
  replace hb246:=hb246.ext hm268
  refine RS.runs rfl rfl rfl (bQ (vv:=(.agg #[(bd ((((sg sX (val xnX))*(sg false (val xdY)))+((sg sY (val xnY))*(sg false (val xdX))))<0)),vr261])) (cs:=[(bd ((((sg sX (val xnX))*(sg false (val xdY)))+((sg sY (val xnY))*(sg false (val xdX))))<0)),vr261]) (o:=0) cO rfl rfl rfl rfl (aF rfl (aF hr262.one bU)) hb246 bL) ?_ RS.nil
  rintro w264 ⟨hn265,hx266,hz267⟩
  refine⟨.inr (.inl kR),?_⟩
  replace hE:=hE.nb hx266 ge_b244
  have nb_hx266:=(Nb.of hb246 (aH rfl (aH rfl cG)))
  replace hb246:Bk w264 b244 49 [(bd ((((sg sX (val xnX))*(sg false (val xdY)))+((sg sY (val xnY))*(sg false (val xdX))))<0)),vr261]:=hn265
  refine RA.done kR ?_
  have hm269:=Ext.trans he111 (Ext.trans he172 (Ext.trans he245 (Ext.trans he249 (Ext.trans he254 he260))))
  replace hx:=(((((hx.tr (Sm.ext (Ext.trans he88 he91))).apn hx96 nb_hx96).tr (Sm.ext (Ext.trans he100 he103))).apn hx108 nb_hx108).tr (Sm.ext hm269)).apn hx266 nb_hx266
  replace hy:=(((hy.tr (Sm.ext (Ext.trans he100 he103))).apn hx108 nb_hx108).tr (Sm.ext hm269)).apn hx266 nb_hx266
  replace hdx:=(((((hdx.tr (Sm.ext (Ext.trans he88 he91))).apn hx96 nb_hx96).tr (Sm.ext (Ext.trans he100 he103))).apn hx108 nb_hx108).tr (Sm.ext hm269)).apn hx266 nb_hx266
  replace hdy:=(((hdy.tr (Sm.ext (Ext.trans he100 he103))).apn hx108 nb_hx108).tr (Sm.ext hm269)).apn hx266 nb_hx266
  replace hb4:=(((((hb4.ext (Ext.trans he88 he91)).exc hx96 (Nat.ne_of_lt (Nat.lt_trans lt_b2_b7 (Nat.lt_trans lt_b7_b12 lt_b12_b90)))).ext (Ext.trans he100 he103)).exc hx108 (Nat.ne_of_lt (Nat.lt_trans lt_b2_b7 (Nat.lt_trans lt_b7_b12 (Nat.lt_trans lt_b12_b90 lt_b90_b102))))).ext hm269).exc hx266 (Nat.ne_of_lt (Nat.lt_trans lt_b2_b7 (Nat.lt_trans lt_b7_b12 (Nat.lt_trans lt_b12_b90 (Nat.lt_trans lt_b90_b102 lt_b102_b244)))))
  replace hb9:=(((hb9.ext (Ext.trans he100 he103)).exc hx108 (Nat.ne_of_lt (Nat.lt_trans lt_b7_b12 (Nat.lt_trans lt_b12_b90 lt_b90_b102)))).ext hm269).exc hx266 (Nat.ne_of_lt (Nat.lt_trans lt_b7_b12 (Nat.lt_trans lt_b12_b90 (Nat.lt_trans lt_b90_b102 lt_b102_b244))))
  replace hb14:=(((((hb14.ext he91).exc hx96 (Nat.ne_of_lt lt_b12_b90)).ext (Ext.trans he100 he103)).exc hx108 (Nat.ne_of_lt (Nat.lt_trans lt_b12_b90 lt_b90_b102))).ext hm269).exc hx266 (Nat.ne_of_lt (Nat.lt_trans lt_b12_b90 (Nat.lt_trans lt_b90_b102 lt_b102_b244)))
  replace hnX:=(hnX.tr (Sm.ext hm268)).apn hx266 nb_hx266
  replace hdX:=(hdX.tr (Sm.ext (Ext.trans he254 he260))).apn hx266 nb_hx266
  have hm270:=Ext.trans he245 (Ext.trans he249 (Ext.trans he254 he260))
  replace hb92:=(hb92.ext hm270).exc hx266 (Nat.ne_of_lt (Nat.lt_trans lt_b90_b102 lt_b102_b244))
  replace hnY:=(hnY.tr (Sm.ext (Ext.trans he254 he260))).apn hx266 nb_hx266
  replace hdY:=(hdY.tr (Sm.ext hm268)).apn hx266 nb_hx266
  replace hb104:=(hb104.ext hm270).exc hx266 (Nat.ne_of_lt lt_b102_b244)
  replace hr251:=(hr251.tr (Sm.ext he260)).apn hx266 nb_hx266
  replace hr256:=(hr256.tr (Sm.ext he260)).apn hx266 nb_hx266
  replace hr262:=hr262.apn hx266 nb_hx266
  refine⟨b244,vr250,vr255,vr261,?_,?_,?_,?_,?_,?_,?_,?_,?_,?_,?_,?_,?_,?_,?_,?_,?_,?_,?_,?_,?_,?_⟩
  ·exact(by repeat (first|exact hoff170|refine Off.st ?_ dC _|refine Off.via hoff70 dC ?_|refine Off.eq hF63 ?_))
  ·exact rfl
  ·exact ge_b244
  ·exact lt_b102_b244
  ·exact hx
  ·exact hy
  ·exact hdx
  ·exact hdy
  ·exact hE
  ·exact hb4
  ·exact hb9
  ·exact hb14
  ·exact hnX
  ·exact hdX
  ·exact hb92
  ·exact hnY
  ·exact hdY
  ·exact hb104
  ·exact hr251
  ·exact hr256
  ·exact hr262
  exact hb246
 clear hx hy hdx hdy hE hb4 hb9 hb14 hnX hdX hb92 hnY hdY hb104
 rintro f271 w272 ⟨b161,vr146,vr151,vr157,hoff273,hs274,ge_b161,lt_b102_b161,hx,hy,hdx,hdy,hE,hb4,hb9,hb14,hnX,hdX,hb92,hnY,hdY,hb104,hr147,hr152,hr158,hb163⟩
 refine bB ?_
 have hi1:=aKt (sg sX (val xnX)*sg false (val xdY)) (sg sY (val xnY)*sg false (val xdX))
 have hi2:=oY (sg sX (val xnX)) (sg false (val xdY))
 have hi3:=oY (sg sY (val xnY)) (sg false (val xdX))
 have hi4:=kS (b:=sX) lmnX rfl
 have hi5:=kS (b:=sY) lmnY rfl
 have hi6:=kS (b:=false) lmdX rfl
 have hi7:=kS (b:=false) lmdY rfl
 have hnz:val (aB (val xdX*val xdY))≠0:=by rw[aW];exact Nat.mul_ne_zero nzX nzY
 refine fI fV λw275 he276=>?_
 replace hE:=hE.nx he276
 replace hb163:=hb163.ext he276
 have hc277:=hb163.cells (o:=0) (cs:=[(bd ((((sg sX (val xnX))*(sg false (val xdY)))+((sg sY (val xnY))*(sg false (val xdX))))<0)),vr157]) rfl
 refine RA.rd 0 rfl kR rfl rfl rfl dC (Ext.refl _) (λu hu=>bX (o:=0) (cs:=[(bd ((((sg sX (val xnX))*(sg false (val xdY)))+((sg sY (val xnY))*(sg false (val xdX))))<0)),vr157]) cQ iB cO hs274 (λj v hj=>bT hu (hc277 j v hj))) ?_
 refine ra 1 rfl (λ_=>aG (v:=vdX) ((hoff273 12 rfl).trans (hF139 12))) ?_
 refine ra 2 rfl (λ_=>aG (v:=vdY) ((hoff273 14 rfl).trans (hF139 14))) ?_
 refine RA.all [3] kR rfl ?_
 replace hdX:=hdX.tr (Sm.ext he276)
 replace hdY:=hdY.tr (Sm.ext he276)
 refine RS.call rfl rfl rfl dC (bO (vl:=[vdX,vdY]) aAo rfl) (aAq hdX lmdX oS hdY lmdY oS) ?_ RS.nil
 rintro vr280 w278 ⟨hr281,he279⟩
 refine rm he279 ?_
 replace hr281:=hr281.fr hE
 replace hE:=hE.nx he279
 have hlv282:=bJ (x:=xdX) lmdX
 have hlv283:=bJ (x:=xdY) lmdY
 have hlv284:=uB (val xdX) (val xdY)
 refine RA.all [4] kR rfl ?_
 replace hr158:=hr158.tr (Sm.ext (Ext.trans he276 he279))
 refine RS.call rfl rfl rfl dC (bO (vl:=[(.agg #[(bd ((((sg sX (val xnX))*(sg false (val xdY)))+((sg sY (val xnY))*(sg false (val xdX))))<0)),vr157]),vr280]) aGd rfl) (pU hr158 (aR _) oS (aU _) hr281 (aR _) oS (by first|assumption|exact hnz)) ?_ RS.nil
 rintro vv293 w285 ⟨⟨vn287,vd289,hv294,hn288,hd290,hl291,hl292⟩,he286⟩
 refine rm he286 ?_
 simp only[aW] at hv294
 subst hv294
 simp only[aW] at hn288 hd290 hl291 hl292
 have hlv295:=dS (Rat.divInt (((sg sX (val xnX))*(sg false (val xdY)))+((sg sY (val xnY))*(sg false (val xdX)))) ((((val xdX)*(val xdY)):Nat):Int))
 replace hn288:=hn288.fr hE
 replace hd290:=hd290.fr hE
 replace hE:=hE.nx he286
 refine RA.all [5] kR rfl ?_
 have hm300:=Ext.trans he276 (Ext.trans he279 he286)
 replace hb14:=hb14.ext hm300
 refine RS.runs rfl rfl rfl (bQ (vv:=(.agg #[(bd ((Rat.divInt (((sg sX (val xnX))*(sg false (val xdY)))+((sg sY (val xnY))*(sg false (val xdX)))) ((((val xdX)*(val xdY)):Nat):Int)).num<0)),vn287,vd289])) (cs:=[(bd ((Rat.divInt (((sg sX (val xnX))*(sg false (val xdY)))+((sg sY (val xnY))*(sg false (val xdX)))) ((((val xdX)*(val xdY)):Nat):Int)).num<0)),vn287,vd289]) (o:=0) dF ((hoff273 4 rfl).trans ((hF139 4).trans ((hoff70 4 rfl).trans (hF63 4)))) rfl rfl rfl (aF rfl (aF hn288.one (aF hd290.one bU))) hb14 bL) ?_ RS.nil
 rintro w296 ⟨hn297,hx298,hz299⟩
 refine⟨.inr (.inl kR),?_⟩
 replace hE:=hE.nb hx298 ge_b12
 have nb_hx298:=(Nb.of hb14 (aH rfl (aH rfl (aH rfl cG))))
 replace hb14:Bk w296 b12 51 [(bd ((Rat.divInt (((sg sX (val xnX))*(sg false (val xdY)))+((sg sY (val xnY))*(sg false (val xdX)))) ((((val xdX)*(val xdY)):Nat):Int)).num<0)),vn287,vd289]:=hn297
 refine RA.done kR ?_
 refine cE ?_
 refine⟨[(.agg #[(bd ((Rat.divInt (((sg sX (val xnX))*(sg false (val xdY)))+((sg sY (val xnY))*(sg false (val xdX)))) ((((val xdX)*(val xdY)):Nat):Int)).num<0)),vn287,vd289])],⟨⟨_,_,[(bd ((Rat.divInt (((sg sX (val xnX))*(sg false (val xdY)))+((sg sY (val xnY))*(sg false (val xdX)))) ((((val xdX)*(val xdY)):Nat):Int)).num<0)),vn287,vd289],((hoff273 4 rfl).trans ((hF139 4).trans ((hoff70 4 rfl).trans (hF63 4)))),⟨_,dT⟩,hb14.cells rfl,.inl ⟨fH,⟨_,_,dF⟩,rfl⟩⟩,trivial⟩,?_⟩
 have hlr:=kV qx qy
 have hq:(Rat.divInt (((sg sX (val xnX))*(sg false (val xdY)))+((sg sY (val xnY))*(sg false (val xdX)))) ((((val xdX)*(val xdY)):Nat):Int))=(qx+qy):=by first|(rw[hx0,Rat.zero_add];done)|(rw[hy0,Rat.add_zero];done)|exact eI hsx1.2.2.1 hsy1.2.2.1 hsx1.2.2.2.2 hsy1.2.2.2.2|exact kU oM eqX (by rw[hxd];exact eqY)|(rw[Int.natCast_mul];exact eI (by rw[sg_f];omega) (by rw[sg_f];omega) eqX eqY)
 replace hn288:=hn288.apn hx298 nb_hx298
 replace hd290:=hd290.apn hx298 nb_hx298
 exact⟨⟨_,_,pT (congrArg (λz:Rat=>decide (z.num<0)) hq),by rw[<-hq];exact hn288,by rw[<-hq];exact hd290,by omega,by omega⟩,hE⟩
theorem q_mul {w:World} {sx:Bool} {Dx Ex:Nat->TypeId->Prop} {vx ux:Value} {x dx:List Nat} (hx:Sg (gN .u32) Dx w vx x) (lmx:Lm x) (lnx:x.length<=17179869184) (hdx:Sg (gN .u32) Ex w ux dx) (lmdx:Lm dx) (lndx:dx.length<=17179869184) {qx:Rat} (ex:dE sx (val x) (val dx)=qx) {sy:Bool} {Dy Ey:Nat->TypeId->Prop} {vy uy:Value} {y dy:List Nat} (hy:Sg (gN .u32) Dy w vy y) (lmy:Lm y) (lny:y.length<=17179869184) (hdy:Sg (gN .u32) Ey w uy dy) (lmdy:Lm dy) (lndy:dy.length<=17179869184) {qy:Rat} (ey:dE sy (val y) (val dy)=qy):
 Calls Tryz.prog 44 #[(.agg #[(.bool sx),vx,ux]),(.agg #[(.bool sy),vy,uy])] w λe w'=>∃v,e= .returned v∧(∃vn vd,v= .agg #[.bool (decide ((qx*qy).num<0)),vn,vd]∧Sg (gN .u32) (λb T=>w.heap.size<=b∧T=131) w' vn (aB (qx*qy).num.natAbs)∧Sg (gN .u32) (λb T=>w.heap.size<=b∧T=131) w' vd (aB (qx*qy).den)∧(aB (qx*qy).num.natAbs).length<=x.length+y.length∧(aB (qx*qy).den).length<=dx.length+dy.length+2)∧Ext w w':=by
 have hE:Below w.heap.size w w:=Below.refl _ _
 have hlqx:=oP lmx lmdx ex
 have hdqx:=dS qx
 have hlqy:=oP lmy lmdy ey
 have hdqy:=dS qy
 refine bH (n:=55) (rs:=[.cell 4 51]) func44 rfl rfl rfl bL ?_
 refine cV λF0 hF0=>?_
 refine wsr ?_
 refine rU (fZ (vv:=(.agg #[(.bool sx),vx,ux])) (cs:=[(.bool sx),vx,ux]) (hF0 0) rfl) ?_
 rintro _ w1 ⟨b2,rfl,hs5,hb4,he3⟩
 have ge_b2:=hE.ge hs5
 replace hE:=hE.nx he3
 refine rU (fZ (vv:=(.agg #[(.bool sy),vy,uy])) (cs:=[(.bool sy),vy,uy]) (hF0 1) rfl) ?_
 rintro _ w6 ⟨b7,rfl,hs10,hb9,he8⟩
 have lt_b2_b7:=Nat.lt_of_lt_of_eq hb4.lt hs10.symm
 have ge_b7:=hE.ge hs10
 replace hE:=hE.nx he8
 refine rU (cZ (cs:=[(.bool false),(.slice none 0 0),(.slice none 0 0)]) dF rfl) ?_
 rintro _ w11 ⟨b12,rfl,hs15,hb14,he13⟩
 have lt_b7_b12:=Nat.lt_of_lt_of_eq hb9.lt hs15.symm
 have ge_b12:=hE.ge hs15
 replace hE:=hE.nx he13
 refine RL.nil (wsr ?_)
 replace hb4:=hb4.ext (Ext.trans he8 he13)
 have hc16:=hb4.cells (o:=0) (cs:=[(.bool sx),vx,ux]) rfl
 refine rV (bX (o:=0) (cs:=[(.bool sx),vx,ux]) dT fH dF rfl hc16) ?_
 have hm19:=Ext.trans he3 (Ext.trans he8 he13)
 replace hx:=hx.tr (Sm.ext hm19)
 replace hdx:=hdx.tr (Sm.ext hm19)
 refine RL.call rfl rfl dC (bO (vl:=[(.agg #[(.bool sx),vx,ux])]) uE rfl) (lW hx (by assumption) oS hdx (by assumption) oS (show dE sx (val x) (val dx)=qx from ex)) ?_
 rintro _ w17 ⟨⟨nX,dX,okX,rfl,hsX⟩,he18⟩
 replace hE:=hE.nx he18
 refine mV (v:=(.tuple #[(iv nX),(iv dX),(.bool okX)])) rfl (rV (aI (v:=(iv nX)) rfl rfl) (rV (aI (v:=(iv dX)) rfl rfl) (rV (aI (v:=(.bool okX)) rfl rfl) (aS (v:=(iv nX)) rfl (aS (v:=(iv dX)) rfl ?_)))))
 refine aS (v:=(.bool okX)) rfl (RL.nil (wsr ?_))
 replace hb9:=hb9.ext (Ext.trans he13 he18)
 have hc20:=hb9.cells (o:=0) (cs:=[(.bool sy),vy,uy]) rfl
 refine rV (bX (o:=0) (cs:=[(.bool sy),vy,uy]) dT fH dF rfl hc20) ?_
 have hm23:=Ext.trans hm19 he18
 replace hy:=hy.tr (Sm.ext hm23)
 replace hdy:=hdy.tr (Sm.ext hm23)
 refine RL.call rfl rfl dC (bO (vl:=[(.agg #[(.bool sy),vy,uy])]) uE rfl) (lW hy (by assumption) oS hdy (by assumption) oS (show dE sy (val y) (val dy)=qy from ey)) ?_
 rintro _ w21 ⟨⟨nY,dY,okY,rfl,hsY⟩,he22⟩
 replace hE:=hE.nx he22
 refine mV (v:=(.tuple #[(iv nY),(iv dY),(.bool okY)])) rfl (rV (aI (v:=(iv nY)) rfl rfl) (rV (aI (v:=(iv dY)) rfl rfl) (rV (aI (v:=(.bool okY)) rfl rfl) (aS (v:=(iv nY)) rfl (aS (v:=(iv dY)) rfl ?_)))))
 refine aS (v:=(.bool okY)) rfl (RL.nil (bB ?_))
 refine cV λF24 hF25=>?_
 refine oI (λfl wl=>∃t:Bool,Off [27,28,29,30] F24 fl∧fl 30=(.bool t)∧(t=true->okX=true∧okY=true)∧(Sg (gN .u32) Dx wl vx x)∧(Sg (gN .u32) Dy wl vy y)∧(Sg (gN .u32) Ex wl ux dx)∧(Sg (gN .u32) Ey wl uy dy)∧(Below w.heap.size w wl)∧(Bk wl b2 51 [(.bool sx),vx,ux])∧(Bk wl b7 51 [(.bool sy),vy,uy])∧(Bk wl b12 51 [(.bool false),(.slice none 0 0),(.slice none 0 0)])) ?_ ?_
 ·have hoff26:=Off.refl [27,28,29,30] F24
  refine aV (mV (v:=(.bool okX)) (hF25 7) (mV (v:=(.bool okX)) rfl ?_))
  rcases Bool.eq_false_or_eq_true (okX) with hb27|hb27
  ·have hb27p:=hb27
   have hokX:=hb27
   refine RL.gval rfl rfl (aD hb27) rfl dC (aG (v:=(.bool okY)) (hF25 10)) ?_
   refine rV (dV (v:=(.bool okY)) (aD hb27) rfl) (RL.nil ?_)
   replace hx:=hx.tr (Sm.ext (Ext.trans he18 he22))
   replace hy:=hy.tr (Sm.ext he22)
   replace hdx:=hdx.tr (Sm.ext (Ext.trans he18 he22))
   replace hdy:=hdy.tr (Sm.ext he22)
   replace hb4:=hb4.ext (Ext.trans he18 he22)
   replace hb9:=hb9.ext he22
   replace hb14:=hb14.ext (Ext.trans he18 he22)
   refine⟨okY,?_,?_,?_,?_,?_,?_,?_,?_,?_,?_,?_⟩
   ·exact(by repeat (first|exact hoff26|refine Off.st ?_ dC _))
   ·rfl
   ·exact λh=>⟨hokX,h⟩
   ·exact hx
   ·exact hy
   ·exact hdx
   ·exact hdy
   ·exact hE
   ·exact hb4
   ·exact hb9
   exact hb14
  have hb27p:=hb27
  refine RL.gno rfl rfl (aD hb27) rfl dC ?_
  refine rV (eP (v:=(.bool false)) (aD hb27) rfl) (RL.nil ?_)
  replace hx:=hx.tr (Sm.ext (Ext.trans he18 he22))
  replace hy:=hy.tr (Sm.ext he22)
  replace hdx:=hdx.tr (Sm.ext (Ext.trans he18 he22))
  replace hdy:=hdy.tr (Sm.ext he22)
  replace hb4:=hb4.ext (Ext.trans he18 he22)
  replace hb9:=hb9.ext he22
  replace hb14:=hb14.ext (Ext.trans he18 he22)
  refine⟨false,?_,?_,?_,?_,?_,?_,?_,?_,?_,?_,?_⟩
  ·exact(by repeat (first|exact hoff26|refine Off.st ?_ dC _))
  ·rfl
  ·exact λh=>by cases h
  ·exact hx
  ·exact hy
  ·exact hdx
  ·exact hdy
  ·exact hE
  ·exact hb4
  ·exact hb9
  exact hb14
 clear hx hy hdx hdy hE hb4 hb9 hb14
 rintro f28 w29 ⟨t,hoff30,hs31,ht,hx,hy,hdx,hdy,hE,hb4,hb9,hb14⟩
 refine kO (b:=t) hs31 (λhb32=>?_) (λhb32=>?_)
 ·have hb32p:=hb32
  have hsx1:=hsX (ht hb32).1
  have hsy1:=hsY (ht hb32).2
  refine bB ?_
  have hm1:=mJ (a:=nX) (b:=dY) ⟨by omega,by omega⟩ ⟨by omega,by omega⟩
  have hm2:=mJ (a:=nY) (b:=dX) ⟨by omega,by omega⟩ ⟨by omega,by omega⟩
  have hm3:=mJ (a:=dX) (b:=dY) ⟨by omega,by omega⟩ ⟨by omega,by omega⟩
  have hm4:=mJ (a:=nX) (b:=nY) ⟨by omega,by omega⟩ ⟨by omega,by omega⟩
  have hmp:=Int.mul_pos hsx1.2.2.1 hsy1.2.2.1
  refine aV (mV (v:=(iv nX)) ((hoff30 5 rfl).trans (hF25 5)) (mV (v:=(iv nY)) ((hoff30 8 rfl).trans (hF25 8)) (rV (jX (k:=.i64) (a:=nX) (b:=nY) (c:=nX*nY) rfl rfl (dJ oM)) (mV (v:=(iv dX)) ((hoff30 6 rfl).trans (hF25 6)) (mV (v:=(iv dY)) ((hoff30 9 rfl).trans (hF25 9)) ?_)))))
  refine rV (jX (k:=.i64) (a:=dX) (b:=dY) (c:=dX*dY) rfl rfl (dJ oM)) ?_
  refine cL aKx (aCy oM oM) rfl ?_
  rintro _ w33 ⟨⟨vn35,vd37,rfl,hn36,hd38,hl39,hl40⟩,he34⟩
  have hlv41:=dS (Rat.divInt (nX*nY) (dX*dY))
  replace hn36:=hn36.fr hE
  replace hd38:=hd38.fr hE
  replace hE:=hE.nx he34
  replace hb14:=hb14.ext he34
  refine RL.runs rfl rfl (bQ (vv:=(.agg #[(bd ((Rat.divInt (nX*nY) (dX*dY)).num<0)),vn35,vd37])) (cs:=[(bd ((Rat.divInt (nX*nY) (dX*dY)).num<0)),vn35,vd37]) (o:=0) dF ((hoff30 4 rfl).trans (hF25 4)) rfl rfl rfl (aF rfl (aF hn36.one (aF hd38.one bU))) hb14 bL) ?_
  rintro w42 ⟨hn43,hx44,hz45⟩
  replace hE:=hE.nb hx44 ge_b12
  have nb_hx44:=(Nb.of hb14 (aH rfl (aH rfl (aH rfl cG))))
  replace hb14:Bk w42 b12 51 [(bd ((Rat.divInt (nX*nY) (dX*dY)).num<0)),vn35,vd37]:=hn43
  refine RL.nil ?_
  refine cE ?_
  refine⟨[(.agg #[(bd ((Rat.divInt (nX*nY) (dX*dY)).num<0)),vn35,vd37])],⟨⟨_,_,[(bd ((Rat.divInt (nX*nY) (dX*dY)).num<0)),vn35,vd37],((hoff30 4 rfl).trans (hF25 4)),⟨_,dT⟩,hb14.cells rfl,.inl ⟨fH,⟨_,_,dF⟩,rfl⟩⟩,trivial⟩,?_⟩
  have hlr:=uL qx qy
  have hq:(Rat.divInt (nX*nY) (dX*dY))=(qx*qy):=by first|exact lT hsx1.2.2.2.2 hsy1.2.2.2.2|(rw[Int.natCast_mul];exact lT eqX eqY)
  replace hn36:=hn36.apn hx44 nb_hx44
  replace hd38:=hd38.apn hx44 nb_hx44
  exact⟨⟨_,_,pT (congrArg (λz:Rat=>decide (z.num<0)) hq),by rw[<-hq];exact hn36,by rw[<-hq];exact hd38,by omega,by omega⟩,hE⟩
 have hb32p:=hb32
 refine bW ?_
 refine wsr ?_
 have hc46:=hb4.cells (o:=0) (cs:=[(.bool sx),vx,ux]) rfl
 refine rV (bX (o:=0) (cs:=[(.bool sx),vx,ux]) dT fH dF ((hoff30 2 rfl).trans (hF25 2)) hc46) ?_
 refine RL.call rfl rfl dC (bO (vl:=[(.agg #[(.bool sx),vx,ux])]) sF rfl) (kA hx (by assumption) oS hdx (by assumption) oS (show dE sx (val x) (val dx)=qx from ex)) ?_
 rintro _ w47 ⟨⟨sX,vnX,vdX,xnX,xdX,rfl,hnX,lmnX,lnnX,hdX,lmdX,lndX,nzX,eqX⟩,he48⟩
 replace hE:=hE.nx he48
 refine mV (v:=(.tuple #[(.agg #[(.bool sX),vnX]),vdX])) rfl (rV (aI (v:=(.agg #[(.bool sX),vnX])) rfl rfl) (rV (aI (v:=vdX) rfl rfl) ?_))
 refine rU (cZ (cs:=[(.bool false),(.slice none 0 0)]) cO rfl) ?_
 rintro _ w49 ⟨b50,rfl,hs53,hb52,he51⟩
 replace hb14:=hb14.ext he48
 have lt_b12_b50:=Nat.lt_of_lt_of_eq hb14.lt hs53.symm
 have ge_b50:=hE.ge hs53
 replace hE:=hE.nx he51
 refine RL.runs rfl rfl (bQ (vv:=(.agg #[(.bool sX),vnX])) (cs:=[(.bool sX),vnX]) (o:=0) cO rfl rfl rfl rfl (aF rfl (aF hnX.one bU)) hb52 bL) ?_
 rintro w54 ⟨hn55,hx56,hz57⟩
 replace hE:=hE.nb hx56 ge_b50
 have nb_hx56:=(Nb.of hb52 (aH rfl (aH rfl cG)))
 replace hb52:Bk w54 b50 49 [(.bool sX),vnX]:=hn55
 refine aS (v:=vdX) rfl (RL.nil (wsr ?_))
 replace hb9:=(hb9.ext (Ext.trans he48 he51)).exc hx56 (Nat.ne_of_lt (Nat.lt_trans lt_b7_b12 lt_b12_b50))
 have hc58:=hb9.cells (o:=0) (cs:=[(.bool sy),vy,uy]) rfl
 refine rV (bX (o:=0) (cs:=[(.bool sy),vy,uy]) dT fH dF ((hoff30 3 rfl).trans (hF25 3)) hc58) ?_
 replace hy:=(hy.tr (Sm.ext (Ext.trans he48 he51))).apn hx56 nb_hx56
 replace hdy:=(hdy.tr (Sm.ext (Ext.trans he48 he51))).apn hx56 nb_hx56
 refine RL.call rfl rfl dC (bO (vl:=[(.agg #[(.bool sy),vy,uy])]) sF rfl) (kA hy (by assumption) oS hdy (by assumption) oS (show dE sy (val y) (val dy)=qy from ey)) ?_
 rintro _ w59 ⟨⟨sY,vnY,vdY,xnY,xdY,rfl,hnY,lmnY,lnnY,hdY,lmdY,lndY,nzY,eqY⟩,he60⟩
 replace hE:=hE.nx he60
 refine mV (v:=(.tuple #[(.agg #[(.bool sY),vnY]),vdY])) rfl (rV (aI (v:=(.agg #[(.bool sY),vnY])) rfl rfl) (rV (aI (v:=vdY) rfl rfl) ?_))
 refine rU (cZ (cs:=[(.bool false),(.slice none 0 0)]) cO rfl) ?_
 rintro _ w61 ⟨b62,rfl,hs65,hb64,he63⟩
 replace hb52:=hb52.ext he60
 have lt_b50_b62:=Nat.lt_of_lt_of_eq hb52.lt hs65.symm
 have ge_b62:=hE.ge hs65
 replace hE:=hE.nx he63
 refine RL.runs rfl rfl (bQ (vv:=(.agg #[(.bool sY),vnY])) (cs:=[(.bool sY),vnY]) (o:=0) cO rfl rfl rfl rfl (aF rfl (aF hnY.one bU)) hb64 bL) ?_
 rintro w66 ⟨hn67,hx68,hz69⟩
 replace hE:=hE.nb hx68 ge_b62
 have nb_hx68:=(Nb.of hb64 (aH rfl (aH rfl cG)))
 replace hb64:Bk w66 b62 49 [(.bool sY),vnY]:=hn67
 refine aS (v:=vdY) rfl (RL.nil (wsr ?_))
 replace hb52:=(hb52.ext he63).exc hx68 (Nat.ne_of_lt lt_b50_b62)
 have hc70:=hb52.cells (o:=0) (cs:=[(.bool sX),vnX]) rfl
 refine rV (bX (o:=0) (cs:=[(.bool sX),vnX]) cQ iB cO rfl hc70) ?_
 have hc71:=hb64.cells (o:=0) (cs:=[(.bool sY),vnY]) rfl
 refine rV (bX (o:=0) (cs:=[(.bool sY),vnY]) cQ iB cO rfl hc71) ?_
 replace hnX:=(((hnX.tr (Sm.ext he51)).apn hx56 nb_hx56).tr (Sm.ext (Ext.trans he60 he63))).apn hx68 nb_hx68
 replace hnY:=(hnY.tr (Sm.ext he63)).apn hx68 nb_hx68
 refine RL.call rfl rfl dC (bO (vl:=[(.agg #[(.bool sX),vnX]),(.agg #[(.bool sY),vnY])]) sG rfl) (sI hnX lmnX oS rfl hnY lmnY oS rfl) ?_
 rintro _ w72 ⟨⟨vr74,rfl,hr75,hl76⟩,he73⟩
 replace hr75:=hr75.fr hE
 replace hE:=hE.nx he73
 refine mV (v:=vdX) rfl (mV (v:=vdY) rfl ?_)
 replace hdX:=((((hdX.tr (Sm.ext he51)).apn hx56 nb_hx56).tr (Sm.ext (Ext.trans he60 he63))).apn hx68 nb_hx68).tr (Sm.ext he73)
 replace hdY:=((hdY.tr (Sm.ext he63)).apn hx68 nb_hx68).tr (Sm.ext he73)
 refine cL aAo (aAq hdX lmdX oS hdY lmdY oS) rfl ?_
 rintro vr79 w77 ⟨hr80,he78⟩
 replace hr80:=hr80.fr hE
 replace hE:=hE.nx he78
 have hlv81:=bJ (x:=xdX) lmdX
 have hlv82:=bJ (x:=xdY) lmdY
 have hlv83:=uB (val xdX) (val xdY)
 have hnz:val (aB (val xdX*val xdY))≠0:=by rw[aW];exact Nat.mul_ne_zero nzX nzY
 replace hr75:=hr75.tr (Sm.ext he78)
 refine RL.call rfl rfl dC (bO (vl:=[(.agg #[(bd (((sg sX (val xnX))*(sg sY (val xnY)))<0)),vr74]),vr79]) aGd rfl) (pU hr75 (aR _) oS (aU _) hr80 (aR _) oS (by first|assumption|exact hnz)) ?_
 rintro vv92 w84 ⟨⟨vn86,vd88,hv93,hn87,hd89,hl90,hl91⟩,he85⟩
 simp only[aW] at hv93
 subst hv93
 simp only[aW] at hn87 hd89 hl90 hl91
 have hlv94:=dS (Rat.divInt ((sg sX (val xnX))*(sg sY (val xnY))) ((((val xdX)*(val xdY)):Nat):Int))
 replace hn87:=hn87.fr hE
 replace hd89:=hd89.fr hE
 replace hE:=hE.nx he85
 have hm99:=Ext.trans he73 (Ext.trans he78 he85)
 replace hb14:=((((hb14.ext he51).exc hx56 (Nat.ne_of_lt lt_b12_b50)).ext (Ext.trans he60 he63)).exc hx68 (Nat.ne_of_lt (Nat.lt_trans lt_b12_b50 lt_b50_b62))).ext hm99
 refine RL.runs rfl rfl (bQ (vv:=(.agg #[(bd ((Rat.divInt ((sg sX (val xnX))*(sg sY (val xnY))) ((((val xdX)*(val xdY)):Nat):Int)).num<0)),vn86,vd88])) (cs:=[(bd ((Rat.divInt ((sg sX (val xnX))*(sg sY (val xnY))) ((((val xdX)*(val xdY)):Nat):Int)).num<0)),vn86,vd88]) (o:=0) dF ((hoff30 4 rfl).trans (hF25 4)) rfl rfl rfl (aF rfl (aF hn87.one (aF hd89.one bU))) hb14 bL) ?_
 rintro w95 ⟨hn96,hx97,hz98⟩
 replace hE:=hE.nb hx97 ge_b12
 have nb_hx97:=(Nb.of hb14 (aH rfl (aH rfl (aH rfl cG))))
 replace hb14:Bk w95 b12 51 [(bd ((Rat.divInt ((sg sX (val xnX))*(sg sY (val xnY))) ((((val xdX)*(val xdY)):Nat):Int)).num<0)),vn86,vd88]:=hn96
 refine RL.nil ?_
 refine cE ?_
 refine⟨[(.agg #[(bd ((Rat.divInt ((sg sX (val xnX))*(sg sY (val xnY))) ((((val xdX)*(val xdY)):Nat):Int)).num<0)),vn86,vd88])],⟨⟨_,_,[(bd ((Rat.divInt ((sg sX (val xnX))*(sg sY (val xnY))) ((((val xdX)*(val xdY)):Nat):Int)).num<0)),vn86,vd88],((hoff30 4 rfl).trans (hF25 4)),⟨_,dT⟩,hb14.cells rfl,.inl ⟨fH,⟨_,_,dF⟩,rfl⟩⟩,trivial⟩,?_⟩
 have hlr:=uL qx qy
 have hq:(Rat.divInt ((sg sX (val xnX))*(sg sY (val xnY))) ((((val xdX)*(val xdY)):Nat):Int))=(qx*qy):=by first|exact lT hsx1.2.2.2.2 hsy1.2.2.2.2|(rw[Int.natCast_mul];exact lT eqX eqY)
 replace hn87:=hn87.apn hx97 nb_hx97
 replace hd89:=hd89.apn hx97 nb_hx97
 exact⟨⟨_,_,pT (congrArg (λz:Rat=>decide (z.num<0)) hq),by rw[<-hq];exact hn87,by rw[<-hq];exact hd89,by omega,by omega⟩,hE⟩
end Go.Proofs.YtlhdigjbokkbiaaGreat.W
namespace Go.Vm
abbrev En:Type:=Int×Rat
def get:List En->Int->Rat
 |[],_=>0
 |e::es,i=>(if e.1=i then e.2 else 0)+get es i
def Asc (es:List En):Prop:=es.Pairwise λa b=>a.1<b.1
def uM (es:List En):Prop:=∀e∈es,e.2≠0
theorem gJ (a b:List En) (i:Int):get (a++b) i=get a i+get b i:=by
 induction a with
 |nil=>rw[List.nil_append];show get b i=0+get b i;rw[Rat.zero_add]
 |cons e a ih=>show _+get (a++b) i=_+get a i+get b i;rw[ih,Rat.add_assoc]
theorem aLy {a b:List En} (h:a.Perm b) (i:Int):get a i=get b i:=by
 induction h with
 |nil=>rfl
 |cons e h ih=>show _+_=_+_;rw[ih]
 |swap x y l=>
  show(if y.1=i then y.2 else 0)+((if x.1=i then x.2 else 0)+get l i)=(if x.1=i then x.2 else 0)+((if y.1=i then y.2 else 0)+get l i)
  rw[<-Rat.add_assoc,<-Rat.add_assoc,Rat.add_comm (if y.1=i then y.2 else 0)]
 |trans h1 h2 a b=>rw[a,b]
theorem gA {a:List En} {i:Int} (h:∀e∈a,e.1≠i):get a i=0:=by
 induction a with
 |nil=>rfl
 |cons e a ih=>
  show(if e.1=i then e.2 else 0)+get a i=0
  rw[if_neg (h e (by simp)),ih (λe he=>h e (by simp[he])),Rat.add_zero]
theorem Asc.tail {e:En} {a:List En} (h:Asc (e::a)):Asc a:=(List.pairwise_cons.1 h).2
theorem Asc.head {e:En} {a:List En} (h:Asc (e::a)):∀x∈a,e.1<x.1:=(List.pairwise_cons.1 h).1
theorem eJ {e:En} {a:List En} (h:Asc (e::a)):get (e::a) e.1=e.2:=by
 show(if e.1=e.1 then e.2 else 0)+get a e.1=e.2
 rw[if_pos rfl,gA (λx hx=>by have:=h.head x hx;omega),Rat.add_zero]
theorem gP {a:List En} {i:Int} (h:∀x∈a,i<x.1):get a i=0:=gA λe he=>by have:=h e he;omega
theorem eF {e:En} {a:List En} {i:Int} (h:e.1≠i):get (e::a) i=get a i:=by
 show(if e.1=i then e.2 else 0)+get a i=get a i
 rw[if_neg h,Rat.zero_add]
theorem kW:∀(a b:List En),Asc a->Asc b->uM a->uM b->(∀i,get a i=get b i)->a=b
 |[],[],_,_,_,_,_=>rfl
 |[],y::b,_,hb,_,zb,h=>by have:=h y.1;rw[eJ hb] at this;exact absurd this.symm (zb y (by simp))
 |x::a,[],ha,_,za,_,h=>by have:=h x.1;rw[eJ ha] at this;exact absurd this (za x (by simp))
 |x::a,y::b,ha,hb,za,zb,h=>by
  have hx:=h x.1
  have hy:=h y.1
  rw[eJ ha] at hx
  rw[eJ hb] at hy
  have hxy:x.1=y.1:=by
   rcases Int.lt_trichotomy x.1 y.1 with h1|h1|h1
   ·rw[gP (a:=y::b) (λz hz=>by rcases List.mem_cons.1 hz with rfl|hz;exact h1;exact Int.lt_trans h1 (hb.head z hz))] at hx
    exact absurd hx (za x (by simp))
   ·exact h1
   rw[gP (a:=x::a) (λz hz=>by rcases List.mem_cons.1 hz with rfl|hz;exact h1;exact Int.lt_trans h1 (ha.head z hz))] at hy
   exact absurd hy.symm (zb y (by simp))
  have e1:x.2=y.2:=by rw[hx,hxy,eJ hb]
  have e2:x=y:=Prod.ext hxy e1
  subst e2
  congr 1
  refine kW a b ha.tail hb.tail (λe he=>za e (by simp[he])) (λe he=>zb e (by simp[he])) λi=>?_
  by_cases hi:x.1=i
  ·subst hi
   rw[gP ha.head,gP hb.head]
  have:=h i
  rwa [eF hi,eF hi] at this
inductive Stp:List En->List En->Int->Rat->Rat->List En->List En->Prop
 |l (x:En) (a:List En):Stp (x::a) [] x.1 x.2 0 a []
 |r (y:En) (b:List En):Stp [] (y::b) y.1 0 y.2 [] b
 |eq (x y:En) (a b:List En) (h:x.1=y.1):Stp (x::a) (y::b) x.1 x.2 y.2 a b
 |lt (x y:En) (a b:List En) (h:x.1<y.1):Stp (x::a) (y::b) x.1 x.2 0 a (y::b)
 |gt (x y:En) (a b:List En) (h:y.1<x.1):Stp (x::a) (y::b) y.1 0 y.2 (x::a) b
theorem Stp.law {a b a' b':List En} {i:Int} {p q:Rat} (h:Stp a b i p q a' b') (ha:Asc a) (hb:Asc b):
 Asc a'∧Asc b'∧(∀e∈a',i<e.1)∧(∀e∈b',i<e.1)∧get a i=p∧get b i=q∧(∀j,j≠i->get a j=get a' j∧get b j=get b' j)∧a'.length+b'.length<a.length+b.length∧(∀z,(∀e∈a,z<e.1)->(∀e∈b,z<e.1)->z<i):=by
 cases h with
 |l x=>exact⟨ha.tail,hb,ha.head,by simp,eJ ha,rfl,λj hj=>⟨eF (Ne.symm hj),rfl⟩,by simp,λz h1 _=>h1 x (by simp)⟩
 |r y=>exact⟨ha,hb.tail,by simp,hb.head,rfl,eJ hb,λj hj=>⟨rfl,eF (Ne.symm hj)⟩,by simp,λz _ h1=>h1 y (by simp)⟩
 |eq x y a b h=>exact⟨ha.tail,hb.tail,ha.head,by rw[h];exact hb.head,eJ ha,by rw[h];exact eJ hb,λj hj=>⟨eF (Ne.symm hj),eF (by rw[<-h];exact Ne.symm hj)⟩,by simp;omega,λz h1 _=>h1 x (by simp)⟩
 |lt x y a b h=>exact⟨ha.tail,hb,ha.head,λe he=>by rcases List.mem_cons.1 he with rfl|he;exact h;exact Int.lt_trans h (hb.head e he),eJ ha,gP (λe he=>by rcases List.mem_cons.1 he with rfl|he;exact h;exact Int.lt_trans h (hb.head e he)),λj hj=>⟨eF (Ne.symm hj),rfl⟩,by simp,λz h1 _=>h1 x (by simp)⟩
 |gt x y a b h=>exact⟨ha,hb.tail,λe he=>by rcases List.mem_cons.1 he with rfl|he;exact h;exact Int.lt_trans h (ha.head e he),hb.head,gP (λe he=>by rcases List.mem_cons.1 he with rfl|he;exact h;exact Int.lt_trans h (ha.head e he)),eJ hb,λj hj=>⟨rfl,eF (Ne.symm hj)⟩,by simp,λz _ h1=>h1 y (by simp)⟩
def aCz:List (Rat×Rat)->Rat
 |[]=>0
 |x::l=>x.1*x.2+aCz l
def dtF:List En->List En->Rat
 |[],_=>0
 |e::a,b=>e.2*get b e.1+dtF a b
theorem aJh (l:List (Rat×Rat)) (p q:Rat):aCz (l++[(p,q)])=aCz l+p*q:=by
 induction l with
 |nil=>show p*q+0=0+p*q;rw[Rat.add_zero,Rat.zero_add]
 |cons x l ih=>show _+aCz (l++[(p,q)])=_+aCz l+p*q;rw[ih,Rat.add_assoc]
theorem aJi {a b b':List En} (h:∀e∈a,get b e.1=get b' e.1):dtF a b=dtF a b':=by
 induction a with
 |nil=>rfl
 |cons e a ih=>show _*_+_=_*_+_;rw[h e (by simp),ih (λe he=>h e (by simp[he]))]
theorem Stp.dt {a b a' b':List En} {i:Int} {p q:Rat} (h:Stp a b i p q a' b') (ha:Asc a) (hb:Asc b):dtF a b=p*q+dtF a' b':=by
 obtain⟨h1,h2,h3,h4,h5,h6,h7,_⟩:=h.law ha hb
 have hc:dtF a' b=dtF a' b':=aJi λe he=>(h7 e.1 (by have:=h3 e he;omega)).2
 cases h with
 |l x=>show x.2*get [] x.1+dtF a' []=x.2*0+dtF a' [];rfl
 |r y=>show(0:Rat)=0*y.2+0;rw[Rat.zero_mul,Rat.add_zero]
 |eq x y=>show x.2*get (y::b') x.1+dtF a' (y::b')=_;rw[h6,hc]
 |lt x y=>show x.2*get (y::_) x.1+dtF a' (y::_)=_;rw[h6]
 |gt x y=>rw[hc,Rat.zero_mul,Rat.zero_add]
structure Mg (op:Rat->Rat->Rat) (a0 b0 a b rs:List En) (ps:List (Rat×Rat)):Prop where
 aa:Asc a
 ab:Asc b
 ar:Asc rs
 nz:uM rs
 lo:∀e∈rs,(∀x∈a,e.1<x.1)∧(∀x∈b,e.1<x.1)
 gt:∀j,(get a j=get a0 j∧get b j=get b0 j∧get rs j=0)∨(get a j=0∧get b j=0∧get rs j=op (get a0 j) (get b0 j)∧(∀x∈a,j<x.1)∧(∀x∈b,j<x.1))
 dt:aCz ps+dtF a b=dtF a0 b0
theorem sK {rs:List En} {i j:Int} {q:Rat} (h:j≠i):get (rs++[(i,q)]) j=get rs j:=by
 rw[gJ];show get rs j+((if i=j then q else 0)+0)=get rs j
 rw[if_neg (Ne.symm h),Rat.add_zero,Rat.add_zero]
theorem aAu {rs:List En} {i:Int} {q:Rat} (h:get rs i=0):get (rs++[(i,q)]) i=q:=by
 rw[gJ,h];show 0+((if i=i then q else 0)+0)=q
 rw[if_pos rfl,Rat.add_zero,Rat.zero_add]
theorem Mg.start {op:Rat->Rat->Rat} {a b:List En} (ha:Asc a) (hb:Asc b):Mg op a b a b [] []:=
 ⟨ha,hb,List.Pairwise.nil,(λ_ h=>by cases h),(λ_ h=>by cases h),λ_=> .inl ⟨rfl,rfl,rfl⟩,by show 0+_=_;rw[Rat.zero_add]⟩
theorem Mg.step {op:Rat->Rat->Rat} {a0 b0 a b rs a' b':List En} {ps:List (Rat×Rat)} {i:Int} {p q:Rat} (H:Mg op a0 b0 a b rs ps) (h:Stp a b i p q a' b'):
 (op p q=0->Mg op a0 b0 a' b' rs (ps++[(p,q)]))∧(op p q≠0->Mg op a0 b0 a' b' (rs++[(i,op p q)]) (ps++[(p,q)])):=by
 obtain⟨h1,h2,h3,h4,h5,h6,h7,h8,h9⟩:=h.law H.aa H.ab
 have hlo:∀e∈rs,e.1<i:=λe he=>h9 e.1 (H.lo e he).1 (H.lo e he).2
 have hri:get rs i=0:=gA λe he=>by have:=hlo e he;omega
 have ga':get a' i=0:=gP h3
 have gb':get b' i=0:=gP h4
 have hi':get a0 i=p∧get b0 i=q:=by
  rcases H.gt i with ⟨g1,g2,g3⟩|⟨g1,g2,g3,g4,g5⟩
  ·exact⟨by rw[<-g1,h5],by rw[<-g2,h6]⟩
  have:=h9 i g4 g5
  omega
 have sub:∀e∈rs,(∀x∈a',e.1<x.1)∧(∀x∈b',e.1<x.1):=λe he=>⟨λx hx=>Int.lt_trans (hlo e he) (h3 x hx),λx hx=>Int.lt_trans (hlo e he) (h4 x hx)⟩
 have low:∀j,(∀x∈a,j<x.1)->(∀x∈b,j<x.1)->(∀x∈a',j<x.1)∧(∀x∈b',j<x.1):=λj g4 g5=>by
  have:=h9 j g4 g5
  exact⟨λx hx=>Int.lt_trans this (h3 x hx),λx hx=>Int.lt_trans this (h4 x hx)⟩
 have hdt:aCz (ps++[(p,q)])+dtF a' b'=dtF a0 b0:=by rw[aJh,Rat.add_assoc,<-h.dt H.aa H.ab];exact H.dt
 constructor
 ·intro hz
  refine⟨h1,h2,H.ar,H.nz,sub,λj=>?_,hdt⟩
  by_cases hj:j=i
  ·subst hj
   exact .inr ⟨ga',gb',by rw[hri,hi'.1,hi'.2,hz],h3,h4⟩
  obtain⟨e1,e2⟩:=h7 j hj
  rcases H.gt j with ⟨g1,g2,g3⟩|⟨g1,g2,g3,g4,g5⟩
  ·exact .inl ⟨by rw[<-e1,g1],by rw[<-e2,g2],g3⟩
  exact .inr ⟨by rw[<-e1,g1],by rw[<-e2,g2],g3,(low j g4 g5).1,(low j g4 g5).2⟩
 intro hz
 refine⟨h1,h2,List.pairwise_append.2 ⟨H.ar,by simp,λx hx y hy=>by rw[List.mem_singleton.1 hy];exact hlo x hx⟩,λe he=>?_,λe he=>?_,λj=>?_,hdt⟩
 ·rcases List.mem_append.1 he with he|he
  ·exact H.nz e he
  rw[List.mem_singleton.1 he];exact hz
 ·rcases List.mem_append.1 he with he|he
  ·exact sub e he
  rw[List.mem_singleton.1 he];exact⟨h3,h4⟩
 by_cases hj:j=i
 ·subst hj
  exact .inr ⟨ga',gb',by rw[aAu hri,hi'.1,hi'.2],h3,h4⟩
 obtain⟨e1,e2⟩:=h7 j hj
 rcases H.gt j with ⟨g1,g2,g3⟩|⟨g1,g2,g3,g4,g5⟩
 ·exact .inl ⟨by rw[<-e1,g1],by rw[<-e2,g2],by rw[sK hj,g3]⟩
 exact .inr ⟨by rw[<-e1,g1],by rw[<-e2,g2],by rw[sK hj,g3],(low j g4 g5).1,(low j g4 g5).2⟩
theorem Mg.fin {op:Rat->Rat->Rat} {a0 b0 rs:List En} {ps:List (Rat×Rat)} (H:Mg op a0 b0 [] [] rs ps) (h0:op 0 0=0):Asc rs∧uM rs∧∀i,get rs i=op (get a0 i) (get b0 i):=by
 refine⟨H.ar,H.nz,λi=>?_⟩
 rcases H.gt i with ⟨g1,g2,g3⟩|⟨g1,g2,g3,_⟩
 ·rw[g3,<-g1,<-g2];exact h0.symm
 exact g3
end Go.Vm
namespace Go.Vy
open Go.Vg Go.RowKit
inductive CV where
 |u
 |v (x:Value)
 |h (A:Option Nat) (n c:Nat)
 |hp (b o:Nat)
 |b (p:Prop) (h:Decidable p)
 |p (i o:Nat)
 |s (i n:Nat)
 |r (A:Option Addr) (n c esz:Nat) (get:Nat->List CV)
 |q (A:Option Addr) (n c esz:Nat) (get:Nat->List CV) (j o:Nat)
 |t (i o n:Nat)
 |f (k:Nat) (fi ca:List (Nat×Nat))
inductive DV where
 |c (x:CV)
 |a (l:List CV)
 |t (l:List DV)
inductive Rc (Z:Nat->Prop) (w:World):CV->Value->Prop
 |u (x:Value):Rc Z w .u x
 |v (x:Value):Rc Z w (.v x) x
 |h (A:Option Nat) (n c:Nat):Rc Z w (.h A n c) (.slice (A.map λb=>⟨b,0,none⟩) n c)
 |hp (b o:Nat):Rc Z w (.hp b o) (.pointer (some ⟨b,o,none⟩))
 |b (p:Prop) (h:Decidable p):Rc Z w (.b p h) (.bool (@decide p h))
 |nil (A:Option Addr) (c esz:Nat) (get:Nat->List CV) (hm:c<=maxLen):Rc Z w (.r A 0 c esz get) (.slice A 0 c)
 |r (b o n c esz:Nat) (get:Nat->List CV) (V:Nat->List Value) (hc:n<=c) (hm:c<=maxLen) (hZ:Z b)
    (hcell:∀(j:Nat),j<n->∀(i:Nat) (u:Value),(V j)[i]? =some u->w.cell? ⟨b,o+j*esz+i,none⟩=some u∧u.oneCell'=true)
    (hlen:∀j,j<n->(V j).length=(get j).length)
    (hel:∀(j:Nat),j<n->∀(i:Nat) (c':CV) (u:Value),(get j)[i]? =some c'->(V j)[i]? =some u->Rc Z w c' u):
    Rc Z w (.r (some ⟨b,o,none⟩) n c esz get) (.slice (some ⟨b,o,none⟩) n c)
theorem oQ {w w':World} {b o:Nat} (h:w'.heap[b]? =w.heap[b]?):w'.cell? ⟨b,o,none⟩=w.cell? ⟨b,o,none⟩:=by
 unfold World.cell?
 simp only[h]
theorem Rc.mono {Z Z':Nat->Prop} {w w':World} {c:CV} {x:Value} (h:Rc Z w c x) (hZ:∀b,Z b->Z' b∧w'.heap[b]? =w.heap[b]?):Rc Z' w' c x:=by
 induction h with
 |u x=>exact .u x
 |v x=>exact .v x
 |h A n c=>exact .h A n c
 |hp b o=>exact .hp b o
 |b p h=>exact .b p h
 |nil A c esz get hm=>exact .nil A c esz get hm
 |r b o n c esz get V hc hm hZb hcell hlen hel ih=>
  refine .r b o n c esz get V hc hm (hZ b hZb).1 (λj hj i u hu=>?_) hlen ih
  have h1:=hcell j hj i u hu
  rw[oQ (hZ b hZb).2]
  exact h1
structure Fam where
 T:TypeId
 es:Nat
 N:Nat
 A:Nat->Option Nat
 cap:Nat->Nat
 get:Nat->List CV
structure Pl where
 at':Nat->Option Nat×Nat
 Z:Nat->Prop
 F:List Fam
def InL (l:List Fam) (b:Nat):Prop:=∃F∈l,∃j,j<F.N∧F.A j=some b
abbrev InF (ρ:Pl) (b:Nat):Prop:=InL ρ.F b
instance:CoeFun Pl (λ_=>Nat->Option Nat×Nat):=⟨Pl.at'⟩
structure Zf (ρ:Pl) (n:Nat) (w:World) (b:Nat):Prop where
 lt:b<w.heap.size
 no:∀i,i<n->(ρ i).1≠some b
 z:ρ.Z b
 nf:¬InF ρ b
def ptr (ρ:Pl) (p:Nat×Nat):Value:=.pointer ((ρ p.1).1.map λb=>⟨b,p.2,none⟩)
def Hc (ρ:Pl) (n:Nat) (w:World):CV->Value->Prop
 |.p i o,x=>i<n∧∃b,(ρ i).1=some b∧x= .pointer (some ⟨b,o,none⟩)
 |.s i m,x=>i<n∧x= .slice ((ρ i).1.map λb=>⟨b,0,none⟩) m (ρ i).2
 |.q A m c esz get j o,x=>Rc (Zf ρ n w) w (.r A m c esz get) (.slice A m c)∧j<m∧∃b o',A=some ⟨b,o',none⟩∧x= .pointer (some ⟨b,o'+j*esz+o,none⟩)
 |.t i o m,x=>i<n∧∃A c,m<=c∧c<=maxLen∧x= .slice A m c∧(m=0∨∃b,(ρ i).1=some b∧A=some ⟨b,o,none⟩)
 |.f k fi ca,x=>(∀p∈fi++ca,p.1<n∧(ρ p.1).1≠none)∧x= .func (.func k) (fi.map (ptr ρ)).toArray (ca.map (ptr ρ)).toArray
 |c,x=>Rc (Zf ρ n w) w c x
def Hl (ρ:Pl) (n:Nat) (w:World):List CV->List Value->Prop
 |[],[]=>True
 |c::l,x::m=>Hc ρ n w c x∧Hl ρ n w l m
 |_,_=>False
inductive Hd (ρ:Pl) (n:Nat) (w:World):DV->Value->Prop
 |c {c:CV} {x:Value} (h:Hc ρ n w c x):Hd ρ n w (.c c) x
 |a {l:List CV} {vl:List Value} (h:Hl ρ n w l vl):Hd ρ n w (.a l) (.agg vl.toArray)
 |t {l:List DV} {vl:List Value} (h:l.length=vl.length) (hh:∀(i:Nat) (d:DV) (u:Value),l[i]? =some d->vl[i]? =some u->Hd ρ n w d u):Hd ρ n w (.t l) (.tuple vl.toArray)
section rel
variable {ρ ρ':Pl} {n n':Nat} {w w':World}
structure Kp (ρ:Pl) (n:Nat) (w:World) (ρ':Pl) (n':Nat) (w':World):Prop where
 le:n<=n'
 pl:∀i,i<n->ρ' i=ρ i
 z:∀b,Zf ρ n w b->Zf ρ' n' w' b∧w'.heap[b]? =w.heap[b]?
theorem Hc.kp {c:CV} {x:Value} (h:Hc ρ n w c x) (k:Kp ρ n w ρ' n' w'):Hc ρ' n' w' c x:=by
 cases c with
 |p i o=>obtain⟨h1,b,h2,h3⟩:=h;exact⟨Nat.lt_of_lt_of_le h1 k.le,b,by rw[k.pl i h1];exact h2,h3⟩
 |s i m=>obtain⟨h1,h2⟩:=h;exact⟨Nat.lt_of_lt_of_le h1 k.le,by rw[k.pl i h1];exact h2⟩
 |q A m c esz get j o=>obtain⟨h1,h2⟩:=h;exact⟨h1.mono k.z,h2⟩
 |t i o m=>obtain⟨h1,h2⟩:=h;exact⟨Nat.lt_of_lt_of_le h1 k.le,by rw[k.pl i h1];exact h2⟩
 |f q fi ca=>
  obtain⟨h1,h2⟩:=h
  refine⟨λp hp=>⟨Nat.lt_of_lt_of_le (h1 p hp).1 k.le,by rw[k.pl p.1 (h1 p hp).1];exact(h1 p hp).2⟩,h2.trans ?_⟩
  have e:∀p∈fi++ca,ptr ρ p=ptr ρ' p:=λp hp=>by unfold ptr;rw[k.pl p.1 (h1 p hp).1]
  rw[List.map_congr_left λp hp=>e p (List.mem_append_left _ hp),List.map_congr_left λp hp=>e p (List.mem_append_right _ hp)]
 |u=>exact Rc.mono h k.z
 |v x=>exact Rc.mono h k.z
 |h A n c=>exact Rc.mono h k.z
 |hp b o=>exact Rc.mono h k.z
 |b p q=>exact Rc.mono h k.z
 |r A m c esz get=>exact Rc.mono h k.z
theorem Hl.kp {l:List CV} {m:List Value} (h:Hl ρ n w l m) (k:Kp ρ n w ρ' n' w'):Hl ρ' n' w' l m:=by
 induction l generalizing m with
 |nil=>cases m with
  |nil=>trivial
  |cons x m=>exact h
 |cons c l ih=>cases m with
  |nil=>exact h
  |cons x m=>exact⟨h.1.kp k,ih h.2⟩
theorem Hd.kp {d:DV} {x:Value} (h:Hd ρ n w d x) (k:Kp ρ n w ρ' n' w'):Hd ρ' n' w' d x:=by
 induction h with
 |c h=>exact .c (h.kp k)
 |a h=>exact .a (h.kp k)
 |t h hh ih=>exact .t h ih
theorem Hl.len {l:List CV} {m:List Value} (h:Hl ρ n w l m):l.length=m.length:=by
 induction l generalizing m with
 |nil=>cases m with
  |nil=>rfl
  |cons x m=>exact h.elim
 |cons c l ih=>cases m with
  |nil=>exact h.elim
  |cons x m=>simp only[List.length_cons,ih h.2]
theorem Hl.get {l:List CV} {m:List Value} (h:Hl ρ n w l m) {i:Nat} {c:CV} (hi:l[i]? =some c):∃x,m[i]? =some x∧Hc ρ n w c x:=by
 induction l generalizing m i with
 |nil=>cases hi
 |cons a l ih=>cases m with
  |nil=>exact h.elim
  |cons x m=>cases i with
   |zero=>injection hi with hi;subst hi;exact⟨x,rfl,h.1⟩
   |succ i=>exact ih h.2 hi
theorem Hl.append {l l2:List CV} {m m2:List Value} (h:Hl ρ n w l m) (h2:Hl ρ n w l2 m2):Hl ρ n w (l++l2) (m++m2):=by
 induction l generalizing m with
 |nil=>cases m with
  |nil=>exact h2
  |cons x m=>exact h.elim
 |cons c l ih=>cases m with
  |nil=>exact h.elim
  |cons x m=>exact⟨h.1,ih h.2⟩
theorem Hl.take {l:List CV} {m:List Value} (h:Hl ρ n w l m) (k:Nat):Hl ρ n w (l.take k) (m.take k):=by
 induction l generalizing m k with
 |nil=>cases m with
  |nil=>simp[Hl]
  |cons x m=>exact h.elim
 |cons c l ih=>cases m with
  |nil=>exact h.elim
  |cons x m=>cases k with
   |zero=>simp[Hl]
   |succ k=>exact⟨h.1,ih h.2 k⟩
theorem Hl.drop {l:List CV} {m:List Value} (h:Hl ρ n w l m) (k:Nat):Hl ρ n w (l.drop k) (m.drop k):=by
 induction l generalizing m k with
 |nil=>cases m with
  |nil=>simp[Hl]
  |cons x m=>exact h.elim
 |cons c l ih=>cases m with
  |nil=>exact h.elim
  |cons x m=>cases k with
   |zero=>exact h
   |succ k=>exact ih h.2 k
theorem Kp.refl:Kp ρ n w ρ n w:=⟨Nat.le_refl _,λ_ _=>rfl,λ_ h=>⟨h,rfl⟩⟩
theorem Kp.ext (e:Ext w w'):Kp ρ n w ρ n w':=⟨Nat.le_refl _,λ_ _=>rfl,λb h=>⟨⟨Nat.lt_of_lt_of_le h.lt e.size,h.no,h.z,h.nf⟩,e.block b h.lt⟩⟩
theorem Kp.exc {i b:Nat} (hi:i<n) (hb:(ρ i).1=some b) (e:Exc b w w'):Kp ρ n w ρ n w':=
 ⟨Nat.le_refl _,λ_ _=>rfl,λb' h=>⟨⟨Nat.lt_of_lt_of_le h.lt e.size,h.no,h.z,h.nf⟩,e.block b' h.lt λhh=>h.no i hi (by rw[hb,hh])⟩⟩
end rel
/-! ### states -/
abbrev Gs:=List (Nat×Bool)
structure SS where
 sl:List (Nat×DV)
 gl:List (Nat×Gs×DV)
 bl:List (TypeId×Nat×List CV)
 fl:List Fam
def cT:List (Nat×DV)->Nat->Option DV
 |[],_=>none
 |(t',d)::l,t=>bif Nat.beq t' t then some d else cT l t
def oJ:List (Nat×Gs×DV)->Nat->Option (Gs×DV)
 |[],_=>none
 |(t',d)::l,t=>bif Nat.beq t' t then some d else oJ l t
def sat (f:Nat->Value) (gs:Gs):Prop:=∀p∈gs,f p.1= .bool p.2
structure Fr (s:SS) (ρ:Pl) (w:World) (f:Nat->Value):Prop where
 sl:∀t d,cT s.sl t=some d->Hd ρ s.bl.length w d (f t)
 gl:∀t gs d,oJ s.gl t=some (gs,d)->(sat f gs->Hd ρ s.bl.length w d (f t))∧(¬sat f gs->f t=undef)
def Bq (ρ:Pl) (n:Nat) (w:World) (i:Nat) (T:TypeId) (esz:Nat) (l:List CV):Prop:=match (ρ i).1 with
 |none=>l=[]∧(ρ i).2=0∧0<esz
 |some b=>∃vl junk,w.heap[b]? =some (.cells (vl++junk).toArray T (0,0))∧Hl ρ n w l vl∧(0<esz->(ρ i).2*esz=(vl++junk).length∧(ρ i).2<=maxLen)∧∀x∈vl,x.oneCell'=true
def mY (e:MapEntry):CV:=match e.key with
 |.int .i64 z=> .h (some e.born) z.toNat 0
 |_=> .u
def wY:CV->Nat
 |.h (some b) _ _=>b
 |_=>0
def gB:CV->Nat
 |.h _ n _=>n
 |_=>0
structure MapL (es:Array MapEntry) (clock:Nat) (l:List CV):Prop where
 en:es.toList.map mY=l
 ky:∀e∈es.toList,(∃n:Nat,e.key= .int .i64 n)∧e.val= .bool true∧e.born<clock
 nd:(es.toList.map (·.key)).Nodup
 nb:(es.toList.map (·.born)).Nodup
structure ItL (since:Nat) (seen:Array Nat) (st:Nat) (g:Nat->List CV):Prop where
 le:since<=st
 lt:∀c∈g 1,wY c<since
 rest:g 0=(g 1).filter λc=>!seen.contains (wY c)
 cur:∀c,g 2=[c]->seen.back? =some (wY c)
def ObR (T cap:Nat) (l:List CV) (ob:Obj):Prop:=bif Nat.beq T 1000000 then ∃es,ob= .map es cap∧MapL es cap l
 else ∃m since seen st g,l=[.r none 0 m st g]∧ob= .mapIter (some m) since seen st∧ItL since seen st g
def Mq (Z:Nat->Prop) (w:World) (F:Fam) (j:Nat):Prop:=match F.A j with
 |none=>F.get j=[]∧F.cap j=0
 |some b=>bif Nat.ble F.T 999999 then ∃(vl junk:List Value),w.heap[b]? =some (.cells (vl++junk).toArray F.T (0,0))∧vl.length=(F.get j).length∧(∀(k:Nat) (c:CV) (x:Value),(F.get j)[k]? =some c->vl[k]? =some x->Rc Z w c x)∧F.cap j*F.es=(vl++junk).length∧F.cap j<=maxLen∧∀x∈vl,x.oneCell'=true
  else ∃ob,w.heap[b]? =some ob∧ObR F.T (F.cap j) (F.get j) ob
structure FamOk (ρ:Pl) (n:Nat) (w:World):Prop where
 ok:∀F∈ρ.F,0<F.es∧∀j,j<F.N->Mq (Zf ρ n w) w F j
 own:∀i b,i<n->(ρ i).1=some b->¬InF ρ b
 inj:∀(f f':Nat) (F F':Fam) (j j' b:Nat),ρ.F[f]? =some F->ρ.F[f']? =some F'->j<F.N->j'<F'.N->F.A j=some b->F'.A j'=some b->f=f'∧j=j'
theorem Mq.lt {Z:Nat->Prop} {w:World} {F:Fam} {j b:Nat} (h:Mq Z w F j) (hb:F.A j=some b):b<w.heap.size:=by
 unfold Mq at h
 simp only[hb] at h
 cases ht:Nat.ble F.T 999999 with
 |true=>rw[ht] at h;obtain⟨vl,junk,h1,_⟩:=h;exact cC h1
 |false=>rw[ht] at h;obtain⟨ob,h1,_⟩:=h;exact cC h1
theorem Mq.at {Z:Nat->Prop} {w:World} {F:Fam} {j b:Nat} (h:Mq Z w F j) (hb:F.A j=some b) (ht:Nat.ble F.T 999999=true):∃(vl junk:List Value),w.heap[b]? =some (.cells (vl++junk).toArray F.T (0,0))∧vl.length=(F.get j).length∧(∀(k:Nat) (c:CV) (x:Value),(F.get j)[k]? =some c->vl[k]? =some x->Rc Z w c x)∧F.cap j*F.es=(vl++junk).length∧F.cap j<=maxLen∧∀x∈vl,x.oneCell'=true:=by
 unfold Mq at h
 simp only[hb,ht,cond_true] at h
 exact h
theorem Mq.ob {Z:Nat->Prop} {w:World} {F:Fam} {j b:Nat} (h:Mq Z w F j) (hb:F.A j=some b) (ht:Nat.ble F.T 999999=false):∃ob,w.heap[b]? =some ob∧ObR F.T (F.cap j) (F.get j) ob:=by
 unfold Mq at h
 simp only[hb,ht,cond_false] at h
 exact h
theorem FamOk.mem {ρ:Pl} {n:Nat} {w:World} (h:FamOk ρ n w) {fl:List Fam} (hl:ρ.F=fl) {f:Nat} {F:Fam} (hf:fl[f]? =some F) {j:Nat} (hj:j<F.N):Mq (Zf ρ n w) w F j:=
 (h.ok F (by rw[hl];exact List.mem_of_getElem? hf)).2 j hj
theorem Mq.mono {Z Z':Nat->Prop} {w w':World} {F:Fam} {j:Nat} (h:Mq Z w F j) (hZ:∀b,Z b->Z' b∧w'.heap[b]? =w.heap[b]?) (hb:∀b,F.A j=some b->w'.heap[b]? =w.heap[b]?):Mq Z' w' F j:=by
 unfold Mq at h ⊢
 cases ha:F.A j with
 |none=>simp only[ha] at h ⊢;exact h
 |some b=>
  simp only[ha] at h ⊢
  cases ht:Nat.ble F.T 999999 with
  |true=>
   rw[ht] at h
   obtain⟨vl,junk,h1,h2,h3,h4⟩:=h
   exact⟨vl,junk,by rw[hb b ha];exact h1,h2,λk c x hc hx=>(h3 k c x hc hx).mono hZ,h4⟩
  |false=>
   rw[ht] at h
   obtain⟨ob,h1,h2⟩:=h
   exact⟨ob,by rw[hb b ha];exact h1,h2⟩
theorem FamOk.lt {ρ:Pl} {n:Nat} {w:World} (h:FamOk ρ n w) {b:Nat} (hb:InF ρ b):b<w.heap.size:=by
 obtain⟨F,hF,j,hj,hA⟩:=hb
 exact((h.ok F hF).2 j hj).lt hA
theorem FamOk.mono {ρ ρ':Pl} {n n':Nat} {w w':World} (h:FamOk ρ n w) (hF:ρ'.F=ρ.F) (hz:∀b,Zf ρ n w b->Zf ρ' n' w' b∧w'.heap[b]? =w.heap[b]?) (hs:∀b,InF ρ b->w'.heap[b]? =w.heap[b]?) (hno:∀i b,i<n'->(ρ' i).1=some b->¬InF ρ b):FamOk ρ' n' w':=
 ⟨λF hf=>by
  rw[hF] at hf
  exact⟨(h.ok F hf).1,λj hj=>((h.ok F hf).2 j hj).mono hz λb hb=>hs b ⟨F,hf,j,hj,hb⟩⟩,λi b hi hb=>by unfold InF;rw[hF];exact hno i b hi hb,by rw[hF];exact h.inj⟩
structure Rl (w0:World) (nb:Nat) (ρ0 ρ:Pl) (w:World):Prop where
 os:w.os=w0.os
 tape:w.tape=w0.tape
 output:w.output=w0.output
 size:w0.heap.size<=w.heap.size
 block:∀k,k<w0.heap.size->(∀i,i<nb->(ρ i).1≠some k)->¬InF ρ0 k->w.heap[k]? =w0.heap[k]?
structure DnW (ρ0:Pl) (w0:World) (nb:Nat) (bl:List (TypeId×Nat×List CV)) (ρ:Pl) (w:World):Prop where
 ok:∀(i:Nat) (T:TypeId) (e:Nat) (l:List CV),bl[i]? =some (T,e,l)->Bq ρ bl.length w i T e l
 inj:∀i j b,i<bl.length->j<bl.length->(ρ i).1=some b->(ρ j).1=some b->i=j
 fr:∀i b,nb<=i->i<bl.length->(ρ i).1=some b->w0.heap.size<=b
 nbl:nb<=bl.length
 rel:Rl w0 nb ρ0 ρ w
 pl:∀i,i<nb->ρ i=ρ0 i
 zz:ρ.Z=ρ0.Z∧∀b,w0.heap.size<=b∨InF ρ0 b->ρ.Z b
 fam:FamOk ρ bl.length w
 ffr:∀b,InF ρ b->w0.heap.size<=b∨InF ρ0 b
structure Dn (ρ0:Pl) (w0:World) (nb:Nat) (s:SS) (ρ:Pl) (f:Nat->Value) (w:World):Prop where
 m:DnW ρ0 w0 nb s.bl ρ w
 f:Fr s ρ w f
 l:ρ.F=s.fl
section world
variable {w0 w w':World} {nb:Nat} {s:SS} {ρ ρ' ρ0:Pl} {f:Nat->Value} {bl:List (TypeId×Nat×List CV)}
theorem Rl.ext (h:Rl w0 nb ρ0 ρ w) (e:Ext w w'):Rl w0 nb ρ0 ρ w':=
 ⟨e.os.trans h.os,e.tape.trans h.tape,e.output.trans h.output,Nat.le_trans h.size e.size,λk hk hn hf=>(e.block k (Nat.lt_of_lt_of_le hk h.size)).trans (h.block k hk hn hf)⟩
theorem bK {α:Type} {l:List α} {i:Nat} {x:α} (h:l[i]? =some x):i<l.length:=(List.getElem?_eq_some_iff.1 h).1
theorem Bq.at {n i b e:Nat} {T:TypeId} {l:List CV} (h:Bq ρ n w i T e l) (hb:(ρ i).1=some b):∃vl junk,w.heap[b]? =some (.cells (vl++junk).toArray T (0,0))∧Hl ρ n w l vl∧(0<e->(ρ i).2*e=(vl++junk).length∧(ρ i).2<=maxLen)∧∀x∈vl,x.oneCell'=true:=by
 unfold Bq at h
 rw[hb] at h
 exact h
theorem Bq.of_some {n i b e:Nat} {T:TypeId} {l:List CV} (hb:(ρ i).1=some b) (h:∃vl junk,w.heap[b]? =some (.cells (vl++junk).toArray T (0,0))∧Hl ρ n w l vl∧(0<e->(ρ i).2*e=(vl++junk).length∧(ρ i).2<=maxLen)∧∀x∈vl,x.oneCell'=true):Bq ρ n w i T e l:=by
 unfold Bq
 rw[hb]
 exact h
theorem Bq.kp {n n' i e:Nat} {T:TypeId} {l:List CV} (h:Bq ρ n w i T e l) (k:Kp ρ n w ρ' n' w') (hi:i<n) (hs:∀b,(ρ i).1=some b->w'.heap[b]? =w.heap[b]?):Bq ρ' n' w' i T e l:=by
 unfold Bq at h ⊢
 rw[k.pl i hi]
 cases hb:(ρ i).1 with
 |none=>simp only[hb] at h ⊢;exact h
 |some b=>
  simp only[hb] at h ⊢
  obtain⟨vl,junk,h1,h2,h3⟩:=h
  exact⟨vl,junk,by rw[hs b hb];exact h1,h2.kp k,h3⟩
theorem Bq.lt {n i b e:Nat} {T:TypeId} {l:List CV} (h:Bq ρ n w i T e l) (hb:(ρ i).1=some b):b<w.heap.size:=by
 obtain⟨vl,junk,h1,_⟩:=h.at hb
 exact cC h1
theorem DnW.lt (h:DnW ρ0 w0 nb bl ρ w) {i b:Nat} (hi:i<bl.length) (hb:(ρ i).1=some b):b<w.heap.size:=
 (h.ok i (bl[i]).1 (bl[i]).2.1 (bl[i]).2.2 (List.getElem?_eq_getElem hi)).lt hb
theorem DnW.ext (h:DnW ρ0 w0 nb bl ρ w) (e:Ext w w'):DnW ρ0 w0 nb bl ρ w':=
 ⟨λi T es l hi=>(h.ok i T es l hi).kp (Kp.ext e) (bK hi) λb hb=>e.block b ((h.ok i T es l hi).lt hb),h.inj,h.fr,h.nbl,h.rel.ext e,h.pl,h.zz,h.fam.mono rfl (Kp.ext e).z (λb hb=>e.block b (h.fam.lt hb)) h.fam.own,h.ffr⟩
theorem Fr.kp (h:Fr s ρ w f) {s':SS} (hsl:s'.sl=s.sl) (hgl:s'.gl=s.gl) (k:Kp ρ s.bl.length w ρ' s'.bl.length w'):Fr s' ρ' w' f:=
 ⟨λt d ht=>(h.sl t d (by rw[<-hsl];exact ht)).kp k,λt gs d ht=>⟨λhs=>((h.gl t gs d (by rw[<-hgl];exact ht)).1 hs).kp k,(h.gl t gs d (by rw[<-hgl];exact ht)).2⟩⟩
theorem Dn.ext (h:Dn ρ0 w0 nb s ρ f w) (e:Ext w w'):Dn ρ0 w0 nb s ρ f w':=⟨h.m.ext e,h.f.kp rfl rfl (Kp.ext e),h.l⟩
theorem fK {α:Type} {l:List α} {i j:Nat} {x y:α} (h:(l.set i x)[j]? =some y):(j=i∧y=x∧i<l.length)∨(j≠i∧l[j]? =some y):=by
 by_cases hji:j=i
 ·subst hji
  have hlt:j<l.length:=by have:=bK h;simpa using this
  rw[List.getElem?_set_self hlt] at h
  injection h with h
  exact .inl ⟨rfl,h.symm,hlt⟩
 rw[List.getElem?_set_ne (Ne.symm hji)] at h
 exact .inr ⟨hji,h⟩
theorem jL {α:Type} {l:List α} {j:Nat} {x y:α} (h:(l++[x])[j]? =some y):(j=l.length∧y=x)∨(j<l.length∧l[j]? =some y):=by
 by_cases hji:j<l.length
 ·rw[List.getElem?_append_left hji] at h
  exact .inr ⟨hji,h⟩
 rw[List.getElem?_append_right oM] at h
 have hz:j-l.length=0:=by
  have:=bK h
  simp only[List.length_singleton] at this
  omega
 rw[hz] at h
 injection h with h
 exact .inl ⟨by omega,h.symm⟩
theorem DnW.exc (h:DnW ρ0 w0 nb bl ρ w) {i b e:Nat} {T:TypeId} {l l':List CV} (hi:bl[i]? =some (T,e,l)) (hb:(ρ i).1=some b) (ex:Exc b w w') (hq:Bq ρ bl.length w' i T e l'):
 DnW ρ0 w0 nb (bl.set i (T,e,l')) ρ w':=by
 have hlt:=bK hi
 refine⟨λj T2 e2 l2 hj=>?_,?_,?_,?_,?_,h.pl,h.zz,?_,h.ffr⟩
 ·rw[List.length_set]
  rcases fK hj with ⟨rfl,h2,_⟩|⟨hne,hj'⟩
  ·injection h2 with h2 h3;injection h3 with h3 h4;subst h2 h3 h4;exact hq
  exact(h.ok j T2 e2 l2 hj').kp (Kp.exc hlt hb ex) (bK hj') λb' hb'=>ex.block b' ((h.ok j T2 e2 l2 hj').lt hb') λhe=>hne (h.inj j i b (bK hj') hlt (by rw[hb',he]) hb)
 ·simpa using h.inj
 ·simpa using h.fr
 ·simpa using h.nbl
 ·refine⟨ex.os.trans h.rel.os,ex.tape.trans h.rel.tape,ex.output.trans h.rel.output,Nat.le_trans h.rel.size ex.size,λk hk hn hf=>?_⟩
  refine(ex.block k (Nat.lt_of_lt_of_le hk h.rel.size) λhe=>?_).trans (h.rel.block k hk hn hf)
  by_cases hib:i<nb
  ·exact hn i hib (by rw[hb,he])
  have:=h.fr i b oM hlt hb
  omega
 rw[List.length_set]
 exact h.fam.mono rfl (Kp.exc hlt hb ex).z (λb' hb'=>ex.block b' (h.fam.lt hb') λhe=>h.fam.own i b hlt hb (he▸hb')) h.fam.own
def mM (ρ:Pl) (n:Nat) (p:Option Nat×Nat):Pl:=⟨λi=>if i=n then p else ρ i,ρ.Z,ρ.F⟩
theorem gY {n i:Nat} {p:Option Nat×Nat} (h:i<n):mM ρ n p i=ρ i:=by
 show(if i=n then p else ρ i)=ρ i
 rw[if_neg oM]
theorem eK {n:Nat} {p:Option Nat×Nat}:mM ρ n p n=p:=by
 show(if n=n then p else ρ n)=p
 rw[if_pos rfl]
theorem Kp.new {n:Nat} {p:Option Nat×Nat} (hp:∀b,p.1=some b->w.heap.size<=b) (e:Ext w w'):Kp ρ n w (mM ρ n p) (n+1) w':=by
 refine⟨Nat.le_succ _,λi hi=>gY hi,λb hb=>⟨⟨Nat.lt_of_lt_of_le hb.lt e.size,λi hi=>?_,hb.z,hb.nf⟩,e.block b hb.lt⟩⟩
 by_cases hin:i=n
 ·rw[hin,eK]
  intro he
  have:=hp b he
  have:=hb.lt
  omega
 rw[gY oM]
 exact hb.no i oM
theorem DnW.new (h:DnW ρ0 w0 nb bl ρ w) {T:TypeId} {es:Nat} {l:List CV} {p:Option Nat×Nat} (hp:∀b,p.1=some b->w.heap.size<=b) (e:Ext w w') (hq:Bq (mM ρ bl.length p) (bl.length+1) w' bl.length T es l):
 DnW ρ0 w0 nb (bl++[(T,es,l)]) (mM ρ bl.length p) w':=by
 refine⟨λj T2 e2 l2 hj=>?_,λi j b hi hj hib hjb=>?_,λi b hi hi2 hb=>?_,?_,?_,λi hi=>(gY (by have:=h.nbl;omega)).trans (h.pl i hi),h.zz,?_,h.ffr⟩
 ·simp only[List.length_append,List.length_singleton]
  rcases jL hj with ⟨rfl,h2⟩|⟨hlt,hj'⟩
  ·injection h2 with h2 h3;injection h3 with h3 h4;subst h2 h3 h4;exact hq
  exact(h.ok j T2 e2 l2 hj').kp (Kp.new hp e) hlt λb hb=>e.block b ((h.ok j T2 e2 l2 hj').lt hb)
 ·simp only[List.length_append,List.length_singleton] at hi hj
  by_cases h1:i=bl.length<;>by_cases h2:j=bl.length
  ·omega
  ·rw[h1,eK] at hib
   rw[gY oM] at hjb
   have:=hp b hib
   have:=h.lt oM hjb
   omega
  ·rw[h2,eK] at hjb
   rw[gY oM] at hib
   have:=hp b hjb
   have:=h.lt oM hib
   omega
  rw[gY oM] at hib hjb
  exact h.inj i j b oM oM hib hjb
 ·simp only[List.length_append,List.length_singleton] at hi2
  by_cases h1:i=bl.length
  ·rw[h1,eK] at hb
   have:=hp b hb
   have:=h.rel.size
   omega
  rw[gY oM] at hb
  exact h.fr i b hi oM hb
 ·have:=h.nbl
  simp only[List.length_append,List.length_singleton]
  omega
 ·have hr:=h.rel.ext e
  refine⟨hr.os,hr.tape,hr.output,hr.size,λk hk hn hf=>hr.block k hk (λi hi=>?_) hf⟩
  have:=hn i hi
  rw[gY (by have:=h.nbl;omega)] at this
  exact this
 simp only[List.length_append,List.length_singleton]
 refine h.fam.mono rfl (Kp.new hp e).z (λb hb=>e.block b (h.fam.lt hb)) λi b hi hb hf=>?_
 by_cases h1:i=bl.length
 ·rw[h1,eK] at hb
  have:=hp b hb
  have:=h.fam.lt hf
  omega
 rw[gY oM] at hb
 exact h.fam.own i b oM hb hf
end world
/-! ### types -/
structure FI where
 off:Nat
 ty:Nat
 size:Nat
 agg:Bool
structure TI where
 size:Nat
 agg:Bool:=false
 el:Option Nat:=none
 ar:Option (Nat×Nat×Nat):=none
 bo:Bool:=false
 str:Bool:=false
 ik:Option IntKind:=none
 fs:List FI:=[]
 ck:Nat:=0
 mp:Bool:=false
 pt:Bool:=false
 by':Nat
 zero:List Value
def ckF:Nat->List Value->Bool
 |1,[.int .i64 _,.int .i64 _]=>true
 |2,[.int .i64 _,.int .i64 _,.int .i64 _]=>true
 |3,[.string _,.int .i64 _,.int .i64 _,.int .i64 _,.int .i64 _,.int .i64 _,.int .i64 _,.int .i64 _,.int .i64 _]=>true
 |_,_=>false
def CkP (P:Program) (t:Nat) (vs:List Value):Prop:=P.eqGuardType P.depth t=false∧∀w,(Op.equalIn (9999+1) t (.agg vs.toArray) (.agg vs.toArray)).run P w= .ok true w
structure GoodT (P:Program) (t:Nat) (i:TI):Prop where
 un:∃d,P.underlying t=some d
 ag:lM P t=i.agg
 ty:∃z,TyI P t i.size i.by' z∧z.cells=i.zero.toArray
 zs:i.zero.length=i.size
 z1:i.zero.all Value.oneCell'=true
 el:∀e,i.el=some e->P.underlying t=some (.slice e)
 ar:∀n e es,i.ar=some (n,e,es)->P.underlying t=some (.array n e)∧∃by' z,TyI P e es by' z
 bo:i.bo=true->P.underlying t=some .bool
 str:i.str=true->P.underlying t=some .string
 ik:∀k,i.ik=some k->P.underlying t=some (.int k)
 fs:i.fs=[]∨∃F:Array Field,P.underlying t=some (.struct F)∧i.fs.length=F.size∧∀(k:Nat) (fi:FI),i.fs[k]? =some fi->∃fl,F[k]? =some fl∧fl.offset=fi.off∧fl.type=fi.ty∧lM P fi.ty=fi.agg∧(∃d,P.underlying fi.ty=some d)∧∃by' z,TyI P fi.ty fi.size by' z
 ck:∀vs,ckF i.ck vs=true->CkP P t vs
 mp:i.mp=true->∃k e,P.underlying t=some (.map k e)∧P.underlying k=some (.int .i64)
 pt:i.pt=true->∃e,P.underlying t=some (.pointer e)
abbrev TT:=Nat->Option TI
def Good (P:Program) (T:TT):Prop:=∀t i,T t=some i->GoodT P t i
/-! ### operands -/
def bAf (g' gs:Gs):Bool:=g'.all λp=>gs.any λq=>Nat.beq p.1 q.1&&(p.2==q.2)
theorem aUr {f:Nat->Value} {g' gs:Gs} (h:bAf g' gs=true) (hs:sat f gs):sat f g':=λp hp=>by
 have h1:=List.all_eq_true.1 h p hp
 obtain⟨q,hq,h2⟩:=List.any_eq_true.1 h1
 simp only[Bool.and_eq_true,beq_iff_eq] at h2
 have h3:=Nat.eq_of_beq_eq_true h2.1
 have:=hs q hq
 rw[h3,h2.2]
 exact this
def jO:Value->CV
 |.bool b=> .b (b=true) inferInstance
 |v=> .v v
def aLz:Value->DV
 |.agg cs=> .a (cs.toList.map jO)
 |v=> .c (.v v)
def val (gs:Gs) (s:SS):Operand->Option DV
 |.tmp t=>match oJ s.gl t with
  |some (g',d)=>bif bAf g' gs then some d else none
  |none=>cT s.sl t
 |.const v=>some (aLz v)
 |.func k=>some (.c (.f k [] []))
 |.global _=>none
section val
variable {s:SS} {ρ ρ0:Pl} {w:World} {f:Nat->Value} {gs:Gs} {n:Nat}
theorem aAv (x:Value):Hc ρ n w (jO x) x:=by
 cases x with
 |bool b=>
  have e:Value.bool b= .bool (decide (b=true)):=by simp
  rw[e]
  cases b<;>exact Rc.b _ _
 |_=>exact Rc.v _
theorem Hl.vs (l:List Value):Hl ρ n w (l.map jO) l:=by
 induction l with
 |nil=>trivial
 |cons x l ih=>exact⟨aAv x,ih⟩
theorem aJj (v:Value):Hd ρ n w (aLz v) v:=by
 cases v with
 |agg cs=>exact Hd.a (vl:=cs.toList) (Hl.vs _)
 |_=>exact .c (Rc.v _)
theorem aK (h:Fr s ρ w f) (hg:sat f gs) {x:Operand} {d:DV} (hx:val gs s x=some d):Hd ρ s.bl.length w d (ev f x):=by
 cases x with
 |tmp t=>
  simp only[val] at hx
  cases he:oJ s.gl t with
  |none=>simp only[he] at hx;exact h.sl t d hx
  |some e=>
   obtain⟨g',d'⟩:=e
   simp only[he] at hx
   cases hb:bAf g' gs with
   |false=>rw[hb] at hx;cases hx
   |true=>
    rw[hb] at hx
    injection hx with hx
    subst hx
    exact(h.gl t g' d' he).1 (aUr hb hg)
 |const v=>injection hx with hx;subst hx;exact aJj v
 |func k=>
  injection hx with hx
  subst hx
  refine Hd.c (c:=.f k [] []) (And.intro (λp hp=>?_) rfl)
  exact absurd hp List.not_mem_nil
 |global k=>cases hx
theorem Hd.inv_c {c:CV} {x:Value} (h:Hd ρ n w (.c c) x):Hc ρ n w c x:=by
 cases h with
 |c h=>exact h
theorem Hd.inv_a {l:List CV} {x:Value} (h:Hd ρ n w (.a l) x):∃vl:List Value,x= .agg vl.toArray∧Hl ρ n w l vl:=by
 cases h with
 |a h=>exact⟨_,rfl,h⟩
theorem Hd.inv_t {l:List DV} {x:Value} (h:Hd ρ n w (.t l) x):∃vl:List Value,x= .tuple vl.toArray∧l.length=vl.length∧∀(i:Nat) (d:DV) (u:Value),l[i]? =some d->vl[i]? =some u->Hd ρ n w d u:=by
 cases h with
 |t h hh=>exact⟨_,rfl,h,hh⟩
theorem Hc.inv_v {y x:Value} (h:Hc ρ n w (.v y) x):x=y:=by
 have h':Rc _ w (.v y) x:=h
 cases h'
 rfl
theorem Hc.inv_b {p:Prop} {hp:Decidable p} {x:Value} (h:Hc ρ n w (.b p hp) x):x= .bool (decide p):=by
 have h':Rc _ w (.b p hp) x:=h
 cases h'
 rfl
theorem Hc.inv_r {A:Option Addr} {m c e:Nat} {get:Nat->List CV} {x:Value} (h:Hc ρ n w (.r A m c e get) x):x= .slice A m c∧Rc (Zf ρ n w) w (.r A m c e get) (.slice A m c):=by
 have h':Rc _ w (.r A m c e get) x:=h
 have e:x= .slice A m c:=by cases h'<;>rfl
 subst e
 exact⟨rfl,h'⟩
theorem Hc.inv_h {A:Option Nat} {m c:Nat} {x:Value} (h:Hc ρ n w (.h A m c) x):x= .slice (A.map λb=>⟨b,0,none⟩) m c:=by
 cases (show Rc _ w (.h A m c) x from h);rfl
theorem Hc.inv_hp {b o:Nat} {x:Value} (h:Hc ρ n w (.hp b o) x):x= .pointer (some ⟨b,o,none⟩):=by
 cases (show Rc _ w (.hp b o) x from h);rfl
theorem Rc.elem {Z:Nat->Prop} {A:Option Addr} {m c e:Nat} {get:Nat->List CV} {x:Value} (h:Rc Z w (.r A m c e get) x) {j:Nat} (hj:j<m):∃b o,A=some ⟨b,o,none⟩∧Z b∧∃vl:List Value,(∀(i:Nat) (u:Value),vl[i]? =some u->w.cell? ⟨b,o+j*e+i,none⟩=some u∧u.oneCell'=true)∧vl.length=(get j).length∧∀(i:Nat) (c':CV) (u:Value),(get j)[i]? =some c'->vl[i]? =some u->Rc Z w c' u:=by
 cases h with
 |nil=>omega
 |r b o n c e get V hc hm hZ hcell hlen hel=>exact⟨b,o,rfl,hZ,V j,λi u hu=>hcell j hj i u hu,hlen j hj,hel j hj⟩
theorem Hc.of_rc {c:CV} {x:Value} (h:Rc (Zf ρ n w) w c x):Hc ρ n w c x:=by
 cases c with
 |u=>exact h
 |v y=>exact h
 |h A n c=>exact h
 |hp b o=>exact h
 |b p hp=>exact h
 |r A m c e get=>exact h
 |p i o=>cases h
 |s i m=>cases h
 |q A m c e get j o=>cases h
 |t i o m=>cases h
 |f k fi ca=>cases h
theorem Hl.of_get {l:List CV} {vl:List Value} (hlen:vl.length=l.length) (h:∀(i:Nat) (c:CV) (u:Value),l[i]? =some c->vl[i]? =some u->Hc ρ n w c u):Hl ρ n w l vl:=by
 induction l generalizing vl with
 |nil=>cases vl with
  |nil=>trivial
  |cons x vl=>cases hlen
 |cons c l ih=>cases vl with
  |nil=>cases hlen
  |cons x vl=>exact⟨h 0 c x rfl rfl,ih (by simpa using hlen) λi c u hc hu=>h (i+1) c u hc hu⟩
end val
def Cal (P:Program) (f:Nat->Value) (o:Oper) (w:World) (ρ:Pl) (n:Nat) (d:DV):Prop:=∃v,Hd ρ n w d v∧∀u,(jT o=true->Ext w u)->(execOp (ev f) o).run P u= .ok (.value v) u
def Pu (P:Program) (f:Nat->Value) (o:Oper) (w:World) (ρ:Pl) (n:Nat) (gs:Gs) (k:DV->Prop):Prop:=∃d,k d∧(sat f gs->Cal P f o w ρ n d)
def ob (pg:Option Prop) (p:Prop):Prop:=match pg with
 |none=>p
 |some q=>q->p
def sS (pg:Option Prop):Prop:=match pg with
 |none=>True
 |some q=>q
theorem fD {pg:Option Prop} {p:Prop} (h:ob pg p) (hp:sS pg):p:=by
 cases pg with
 |none=>exact h
 |some q=>exact h hp
def aGl:Nat->List CV->(List CV->Prop)->Prop
 |0,_,k=>k []
 |n+1,c::l,k=>aGl n l λr=>k (c::r)
 |_+1,[],_=>False
theorem aAw:∀{n:Nat} {l:List CV} {k:List CV->Prop},aGl n l k->n<=l.length∧k (l.take n)
 |0,l,k,h=>⟨Nat.zero_le _,h⟩
 |n+1,[],k,h=>h.elim
 |n+1,c::l,k,h=>by
  obtain⟨h1,h2⟩:=aAw (n:=n) (l:=l) h
  exact⟨Nat.succ_le_succ h1,h2⟩
/-! ### the operations -/
def sL (gs:Gs) (s:SS) (x:Operand) (k:DV->Prop):Prop:=match val gs s x with
 |some d=>k d
 |none=>False
def bAg (gs:Gs) (s:SS) (x:Operand) (k:DV->Prop):Prop:=match val gs s x with
 |some (.c (.p i o))=>k (.c (.p i o))
 |some (.c (.q A n c e get j o))=>k (.c (.q A n c e get j o))
 |some (.c (.hp b o))=>k (.c (.hp b o))
 |_=>False
def aYg (off:Nat) (k:DV->Prop):DV->Prop
 |.c (.p i o)=>k (.c (.p i (o+off)))
 |.c (.q A n c e get j o)=>k (.c (.q A n c e get j (o+off)))
 |.c (.hp b o)=>k (.c (.hp b (o+off)))
 |_=>False
def bAh (T:TT) (gs:Gs) (s:SS) (t:Nat) (x:Operand) (i:Nat) (k:DV->Prop):Prop:=match T t with
 |some ti=>match ti.fs[i]? with
  |some fi=>bif Nat.ble 1 fi.size then (match val gs s x with
   |some d=>aYg fi.off k d
   |none=>False) else False
  |none=>False
 |none=>False
def ldK (ti:TI) (o:Nat) (l:List CV) (k:DV->Prop):Prop:=bif ti.agg then aGl ti.size (l.drop o) λr=>k (.a r) else match l[o]? with
 |some c=>k (.c c)
 |none=>False
def ldS (pg:Option Prop) (ti:TI) (o:Nat) (l:List CV) (k:DV->Prop):Prop:=bif ti.agg then ∃r,ob pg ((l.drop o).take ti.size=r∧r.length=ti.size)∧k (.a r) else ∃c,ob pg (l[o]? =some c)∧k (.c c)
def aMa (T:TT) (pg:Option Prop) (gs:Gs) (s:SS) (t:Nat) (x:Operand) (k:DV->Prop):Prop:=match T t with
 |some ti=>match val gs s x with
  |some (.c (.p j o))=>(match s.bl[j]? with
   |some b=>bif Nat.beq b.2.1 0 then ldK ti o b.2.2 k else ldS pg ti o b.2.2 k
   |none=>False)
  |some (.c (.q _ _ _ _ get j o))=>ldK ti o (get j) k
  |some (.c (.hp b o))=>∃f j:Nat,(match s.fl[f]? with
   |some F=>bif Nat.ble F.T 999999 then ob pg (j<F.N∧F.A j=some b)∧ldS pg ti o (F.get j) k else False
   |none=>False)
  |_=>False
 |none=>False
def arK (pg:Option Prop) (ka:IntKind) (z:Int) (k:DV->Prop):Prop:=∃r,ob pg (r=ka.wrap z)∧k (.c (.v (.int ka r)))
def bC (p:Prop) [h:Decidable p]:DV:=.c (.b p h)
def bGx (pg:Option Prop) (op:BinOp) (ka:IntKind) (a b:Int) (k:DV->Prop):Prop:=match op with
 |.lss=>k (bC (a<b))
 |.leq=>k (bC (a<=b))
 |.gtr=>k (bC (b<a))
 |.geq=>k (bC (b<=a))
 |.eql=>k (bC (a=b))
 |.neq=>k (bC (a≠b))
 |.add=>arK pg ka (a+b) k
 |.sub=>arK pg ka (a-b) k
 |.mul=>arK pg ka (a*b) k
 |.quo=>ob pg (b≠0)∧arK pg ka (a.tdiv b) k
 |.rem=>ob pg (b≠0)∧k (.c (.v (.int ka (a.tmod b))))
 |.or=>arK pg ka (BitVec.ofInt ka.bits a|||BitVec.ofInt ka.bits b).toNat k
 |.and=>arK pg ka (BitVec.ofInt ka.bits a&&&BitVec.ofInt ka.bits b).toNat k
 |_=>False
def bGy:BinOp->Bool
 |.shl=>true
 |.shr=>true
 |_=>false
def shI (pg:Option Prop) (op:BinOp) (ka:IntKind) (a b:Int) (k:DV->Prop):Prop:=match op with
 |.shl=>ob pg (0<=b)∧arK pg ka (a*2^(min b.toNat ka.bits)) k
 |.shr=>ob pg (0<=b)∧∃r,ob pg (r=a.fdiv (2^(min b.toNat ka.bits)))∧k (.c (.v (.int ka r)))
 |_=>False
def aAx (T:TT) (t:Nat) (op:BinOp) (p q:Prop) (hp:Decidable p) (hq:Decidable q) (k:DV->Prop):Prop:=match T t with
 |some ti=>bif ti.bo then (match op with
  |.eql=>k (.c (.b (p↔q) (@instDecidableIff p q hp hq)))
  |.neq=>k (.c (.b (¬(p↔q)) (@instDecidableNot _ (@instDecidableIff p q hp hq))))
  |_=>False) else False
 |none=>False
def bAi (T:TT) (t:Nat) (pg:Option Prop) (gs:Gs) (s:SS) (op:BinOp) (x y:Operand) (k:DV->Prop):Prop:=match val gs s x,val gs s y with
 |some (.c (.v (.int ka a))),some (.c (.v (.int kb b)))=>bif bGy op then shI pg op ka a b k else bif decide (ka=kb) then bGx pg op ka a b k else False
 |some (.c (.b p hp)),some (.c (.b q hq))=>aAx T t op p q hp hq k
 |some (.c (.b p hp)),some (.c (.v (.bool q)))=>aAx T t op p (q=true) hp inferInstance k
 |some (.c (.v (.bool p))),some (.c (.b q hq))=>aAx T t op (p=true) q inferInstance hq k
 |some (.c (.v (.string a))),some (.c (.v (.string b)))=>(match op with
  |.eql=>k (bC (a.toList=b.toList))
  |.neq=>k (bC (a.toList≠b.toList))
  |.add=>ob pg (a.size+b.size<=9223372036854775807)∧k (.c (.v (.string (a++b))))
  |_=>False)
 |some (.c (.r A _ _ _ _)),some (.c (.v (.slice none 0 0)))=>(match op,T t with
  |.eql,some ti=>bif ti.el.isSome then k (bC (A.isNone=true)) else False
  |_,_=>False)
 |some (.c (.p _ _)),some (.c (.v (.pointer none)))=>(match op,T t with
  |.eql,some ti=>bif ti.pt then k (.c (.v (.bool false))) else False
  |_,_=>False)
 |some (.c (.v (.pointer none))),some (.c (.v (.pointer none)))=>(match op,T t with
  |.eql,some ti=>bif ti.pt then k (.c (.v (.bool true))) else False
  |_,_=>False)
 |some (.a l1),some (.a l2)=>(match op,T t with
  |.eql,some ti=>∃vs:List Value,ob pg (l1=vs.map CV.v∧l2=vs.map CV.v∧ckF ti.ck vs=true)∧k (.c (.v (.bool true)))
  |_,_=>False)
 |_,_=>False
def eUn (pg:Option Prop) (gs:Gs) (s:SS) (op:UnOp) (x:Operand) (k:DV->Prop):Prop:=match val gs s x with
 |some (.c (.b p h))=>(match op with
  |.not=>k (.c (.b (¬p) (@instDecidableNot p h)))
  |_=>False)
 |some (.c (.v (.bool b)))=>(match op with
  |.not=>k (.c (.v (.bool (!b))))
  |_=>False)
 |some (.c (.v (.int ka a)))=>(match op with
  |.neg=>arK pg ka (0-a) k
  |_=>False)
 |_=>False
def aMb (T:TT) (pg:Option Prop) (gs:Gs) (s:SS) (t t':Nat) (x:Operand) (k:DV->Prop):Prop:=match T t,T t' with
 |some _,some ti=>(match ti.ik,val gs s x with
  |some ka,some (.c (.v (.int _ a)))=>arK pg ka a k
  |_,_=>False)
 |_,_=>False
def bAj (T:TT) (pg:Option Prop) (gs:Gs) (s:SS) (t:Nat) (x y:Operand) (k:DV->Prop):Prop:=match T t with
 |some ti=>(match ti.el with
  |some e=>(match T e,val gs s x,val gs s y with
   |some te,some (.c (.r A n c e' get)),some (.c (.v (.int _ z)))=>bif Nat.beq e' te.size then ∃m:Nat,ob pg (z=m∧m<n)∧k (.c (.q A n c e' get m 0)) else False
   |some te,some (.c (.s i n)),some (.c (.v (.int _ z)))=>(match s.bl[i]? with
    |some b=>∃m:Nat,ob pg (z=m∧m<n∧m*te.size<b.2.2.length)∧k (.c (.p i (m*te.size)))
    |none=>False)
   |some te,some (.c (.h A n _)),some (.c (.v (.int _ z)))=>∃m b:Nat,ob pg (z=m∧m<n∧A=some b)∧k (.c (.hp b (m*te.size)))
   |_,_,_=>False)
  |none=>False)
 |none=>False
def aMc (T:TT) (pg:Option Prop) (gs:Gs) (s:SS) (t:Nat) (x y:Operand) (k:DV->Prop):Prop:=match T t with
 |some ti=>(match ti.ar,val gs s x,val gs s y with
  |some (n,_,es),some (.c (.p i o)),some (.c (.v (.int _ z)))=>∃m:Nat,ob pg (z=m∧m<n)∧k (.c (.p i (o+m*es)))
  |some (n,_,es),some (.c (.q A nn c e' get j o)),some (.c (.v (.int _ z)))=>∃m:Nat,ob pg (z=m∧m<n)∧k (.c (.q A nn c e' get j (o+m*es)))
  |_,_,_=>False)
 |none=>False
def aMd (T:TT) (pg:Option Prop) (gs:Gs) (s:SS) (t:Nat) (x y:Operand) (k:DV->Prop):Prop:=match T t with
 |some ti=>bif ti.str then (match val gs s x,val gs s y with
  |some (.c (.v (.string a))),some (.c (.v (.int _ z)))=>∃(m:Nat) (b:UInt8),ob pg (z=m∧a[m]? =some b)∧k (.c (.v (.int .u8 b.toNat)))
  |_,_=>False) else False
 |none=>False
def slA (A:Option Addr) (c l e:Nat):Option Addr:=if c=l then A else A.map (·.add (l*e))
def eSl (T:TT) (pg:Option Prop) (gs:Gs) (s:SS) (t:Nat) (x:Operand) (lo hi:Option Operand) (k:DV->Prop):Prop:=match T t with
 |some ti=>(match ti.el with
  |some e=>(match T e,val gs s x with
   |some te,some (.c (.r A n c e' get))=>bif Nat.beq e' te.size then (match lo,hi with
    |none,some y=>(match val gs s y with
     |some (.c (.v (.int _ z)))=>∃h:Nat,ob pg (z=h∧h<=n)∧k (.c (.r A h c e' get))
     |_=>False)
    |some y,none=>(match val gs s y with
     |some (.c (.v (.int _ z)))=>∃l:Nat,ob pg (z=l∧l<=n)∧k (.c (.r (slA A c l e') (n-l) (c-l) e' λj=>get (j+l)))
     |_=>False)
    |_,_=>False) else False
   |some te,some (.c (.s i n))=>(match s.bl[i]? with
    |some b=>bif Nat.beq b.2.1 te.size&&Nat.ble 1 te.size then (match lo,hi with
     |none,some y=>(match val gs s y with
      |some (.c (.v (.int _ z)))=>∃h:Nat,ob pg (z=h∧h*te.size<=b.2.2.length)∧k (.c (.s i h))
      |_=>False)
     |some y,none=>(match val gs s y with
      |some (.c (.v (.int _ z)))=>∃l:Nat,ob pg (z=l∧l<=n∧n*te.size<=b.2.2.length)∧k (.c (.t i (l*te.size) (n-l)))
      |_=>False)
     |_,_=>False) else False
    |none=>False)
   |_,_=>False)
  |none=>bif ti.str then (match val gs s x,lo,hi with
   |some (.c (.v (.string a))),some y,some y'=>(match val gs s y,val gs s y' with
    |some (.c (.v (.int _ z))),some (.c (.v (.int _ z')))=>∃l h:Nat,ob pg (z=l∧z'=h∧l<=h∧h<=a.size)∧k (.c (.v (.string (a.extract l h))))
    |_,_=>False)
   |_,_,_=>False) else False)
 |none=>False
def aMe (T:TT) (gs:Gs) (s:SS) (t:Nat) (x:Operand) (i:Nat) (k:DV->Prop):Prop:=match T t with
 |some ti=>match ti.fs[i]? with
  |some fi=>match val gs s x with
   |some (.a l)=>ldK {size:=fi.size,agg:=fi.agg,by':=0,zero:=[]} fi.off l k
   |_=>False
  |none=>False
 |none=>False
def bAk (gs:Gs) (s:SS) (x:Operand) (i:Nat) (k:DV->Prop):Prop:=match val gs s x with
 |some (.t l)=>(match l[i]? with
  |some d=>k d
  |none=>False)
 |_=>False
def bAl (T:TT) (gs:Gs) (s:SS) (t:Nat) (x:Operand) (k:DV->Prop):Prop:=match T t with
 |some ti=>(match val gs s x with
  |some (.c (.r _ n _ _ _))=>bif ti.el.isSome then k (.c (.v (.int .i64 n))) else False
  |some (.c (.s _ n))=>bif ti.el.isSome then k (.c (.v (.int .i64 n))) else False
  |some (.c (.h _ n _))=>bif ti.el.isSome then k (.c (.v (.int .i64 n))) else False
  |some (.c (.v (.slice _ n _)))=>bif ti.el.isSome then k (.c (.v (.int .i64 n))) else False
  |some (.c (.v (.string a)))=>bif ti.str then k (.c (.v (.int .i64 a.size))) else False
  |_=>False)
 |none=>False
def eMm (mx:Bool) (gs:Gs) (s:SS) (x y:Operand) (k:DV->Prop):Prop:=match val gs s x,val gs s y with
 |some (.c (.v (.int ka a))),some (.c (.v (.int kb b)))=>bif decide (ka=kb) then k (.c (.v (.int ka (bif mx then max a b else min a b)))) else False
 |_,_=>False
def aYh (k:DV->Prop):DV->DV->DV->Prop
 |.c (.b p hp),.c (.b q hq),.c (.v (.bool z))=>bif z then k (.c (.b (p->q) (@instDecidableForall p q hp hq))) else k (.c (.b (p∧q) (@instDecidableAnd p q hp hq)))
 |.c (.b p hp),.c (.v (.bool y)),.c (.b q hq)=>bif y then k (.c (.b (p∨q) (@instDecidableOr p q hp hq))) else k (.c (.b (¬p∧q) (@instDecidableAnd _ q (@instDecidableNot p hp) hq)))
 |.c (.b p hp),.c (.b q hq),.c (.b r hr)=>k (.c (.b ((p∧q)∨(¬p∧r)) (@instDecidableOr _ _ (@instDecidableAnd p q hp hq) (@instDecidableAnd _ r (@instDecidableNot p hp) hr))))
 |.c (.b p hp),.c (.v (.bool y)),.c (.v (.bool z))=>bif y then (bif z then k (.c (.v (.bool true))) else k (.c (.b p hp))) else False
 |_,_,_=>False
def aMf (gs:Gs) (s:SS) (x y z:Operand) (k:DV->Prop):Prop:=match x with
 |.tmp t=>(match val gs s x with
  |some (.c (.v (.bool b)))=>bif b then sL ((t,true)::gs) s y k else sL ((t,false)::gs) s z k
  |some c=>(match val ((t,true)::gs) s y,val ((t,false)::gs) s z with
   |some p,some q=>aYh k c p q
   |_,_=>False)
  |none=>False)
 |_=>False
def aMg (gs:Gs) (s:SS):List Operand->(List (Nat×Nat)->Prop)->Prop
 |[],k=>k []
 |x::l,k=>match val gs s x with
  |some (.c (.p i o))=>aMg gs s l λr=>k ((i,o)::r)
  |_=>False
def bAm (gs:Gs) (s:SS) (fn:Fn) (fi ca:List Operand) (k:DV->Prop):Prop:=match fn with
 |.func q=>aMg gs s fi λa=>aMg gs s ca λb=>k (.c (.f q a b))
 |_=>False
section ops
variable {P:Program} {T:TT} (hT:Good P T) {w0 w:World} {nb:Nat} {s:SS} {ρ ρ0:Pl} {f:Nat->Value} {gs:Gs} {pg:Option Prop} {dst:Option Tmp} {ty:TypeId} {pos:String} {aft:Array Edge} {gd:Option (Nat×Bool)} {x y z:Operand} {t t':TypeId} {k:DV->Prop}
theorem aAy (h:sL gs s x k) (hF:Fr s ρ w f):Pu P f ⟨dst,.move x,ty,pos,aft,gd⟩ w ρ s.bl.length gs k∧Pu P f ⟨dst,.assign x,ty,pos,aft,gd⟩ w ρ s.bl.length gs k:=by
 unfold sL at h
 split at h
 ·next d hx=>exact⟨⟨d,h,λhs=>⟨_,aK hF hs hx,λu _=>rfl⟩⟩,⟨d,h,λhs=>⟨_,aK hF hs hx,λu _=>rfl⟩⟩⟩
 exact h.elim
theorem aMh {u:World} {a:Addr} (hx:ev f x= .pointer (some a)):(execOp (ev f) ⟨dst,.nilCheck x,ty,pos,aft,gd⟩).run P u= .ok (.value (.pointer (some a))) u:=by
 simp[execOp,hx,Instr.sureAddr]
theorem aUs (h:bAg gs s x k) (hF:Fr s ρ w f):Pu P f ⟨dst,.nilCheck x,ty,pos,aft,gd⟩ w ρ s.bl.length gs k:=by
 unfold bAg at h
 split at h
 ·next i o hx=>
  refine⟨_,h,λhs=>⟨_,aK hF hs hx,λu _=>?_⟩⟩
  obtain⟨_,b,_,he⟩:=(aK hF hs hx).inv_c
  rw[he]
  exact aMh he
 ·next A n c e get j o hx=>
  refine⟨_,h,λhs=>⟨_,aK hF hs hx,λu _=>?_⟩⟩
  obtain⟨_,_,b,o',_,he⟩:=(aK hF hs hx).inv_c
  rw[he]
  exact aMh he
 ·next b o hx=>
  refine⟨_,h,λhs=>⟨_,aK hF hs hx,λu _=>?_⟩⟩
  have he:=(aK hF hs hx).inv_c.inv_hp
  rw[he]
  exact aMh he
 exact h.elim
include hT in
theorem aUt {i:Nat} (h:bAh T gs s t x i k) (hF:Fr s ρ w f):Pu P f ⟨dst,.fieldAddr t x i,ty,pos,aft,gd⟩ w ρ s.bl.length gs k:=by
 unfold bAh at h
 split at h
 ·next ti ht=>
  split at h
  ·next fi hfi=>
   cases hz:Nat.ble 1 fi.size with
   |false=>rw[hz] at h;exact h.elim
   |true=>
    rw[hz] at h
    have hz':=Nat.le_of_ble_eq_true hz
    simp only[cond_true] at h
    have hfs:∃F:Array Field,P.underlying t=some (.struct F)∧∃fl,F[i]? =some fl∧fl.offset=fi.off∧fl.type=fi.ty∧∃by' z,TyI P fi.ty fi.size by' z:=by
     rcases (hT t ti ht).fs with h0|⟨F,hF,_,hh⟩
     ·rw[h0] at hfi;cases hfi
     obtain⟨fl,h1,h2,h3,_,_,h4⟩:=hh i fi hfi
     exact⟨F,hF,fl,h1,h2,h3,h4⟩
    obtain⟨F,hFF,fl,h1,h2,h3,by',zz,h4⟩:=hfs
    have h5:TyI P fl.type ((fi.size-1)+1) by' zz:=by rw[h3,Nat.sub_add_cancel hz'];exact h4
    split at h
    ·next d hx=>
     unfold aYg at h
     split at h
     ·next j o=>
      refine⟨_,h,λhs=>?_⟩
      obtain⟨hj,b,hb,he⟩:=(aK hF hs hx).inv_c
      refine⟨.pointer (some ⟨b,o+fi.off,none⟩),.c ⟨hj,b,hb,rfl⟩,λu _=>?_⟩
      rw[<-h2]
      exact aM hFF h1 h5 he
     ·next A n c e get j o=>
      refine⟨_,h,λhs=>?_⟩
      obtain⟨hr,hj,b,o',hA,he⟩:=(aK hF hs hx).inv_c
      refine⟨.pointer (some ⟨b,o'+j*e+(o+fi.off),none⟩),.c ⟨hr,hj,b,o',hA,rfl⟩,λu _=>?_⟩
      rw[<-h2,<-Nat.add_assoc]
      exact aM hFF h1 h5 he
     ·next b o=>
      refine⟨_,h,λhs=>?_⟩
      refine⟨.pointer (some ⟨b,o+fi.off,none⟩),.c (Rc.hp _ _),λu _=>?_⟩
      rw[<-h2]
      exact aM hFF h1 h5 (aK hF hs hx).inv_c.inv_hp
     exact h.elim
    exact h.elim
  exact h.elim
 exact h.elim
theorem aGm {ti:TI} {o:Nat} {l:List CV} (h:ldK ti o l k):∃d,k d∧∀(ρ:Pl) (n:Nat) (w:World) (vl:List Value),Hl ρ n w l vl->∃v,Hd ρ n w d v∧((ti.agg=true∧v= .agg ((vl.drop o).take ti.size).toArray∧((vl.drop o).take ti.size).length=ti.size)∨(ti.agg=false∧vl[o]? =some v)):=by
 unfold ldK at h
 cases ha:ti.agg with
 |true=>
  rw[ha] at h
  obtain⟨h1,h2⟩:=aAw (show aGl ti.size (l.drop o) _ from h)
  refine⟨_,h2,λρ n w vl hl=>⟨_,.a ((hl.drop o).take ti.size),.inl ⟨rfl,rfl,?_⟩⟩⟩
  have:=hl.len
  simp only[List.length_take,List.length_drop] at h1 ⊢
  omega
 |false=>
  rw[ha] at h
  simp only[cond_false] at h
  split at h
  ·next c hc=>
   refine⟨_,h,λρ n w vl hl=>?_⟩
   obtain⟨v,h1,h2⟩:=hl.get hc
   exact⟨v,.c h2,.inr ⟨rfl,h1⟩⟩
  exact h.elim
theorem gC {u:World} {b i:Nat} {T:TypeId} {vl junk:List Value} {x:Value} (h:u.heap[b]? =some (.cells (vl++junk).toArray T (0,0))) (hi:vl[i]? =some x):u.cell? ⟨b,i,none⟩=some x:=by
 unfold World.cell?
 simp only[h]
 have:=List.getElem?_append_left (l₂:=junk) (bK hi)
 simp[this,hi]
theorem aDa {ti:TI} {u:World} {b p o:Nat} {vl:List Value} {v:Value} (G:GoodT P t ti) (hx:ev f x= .pointer (some ⟨b,p+o,none⟩)) (hc:∀(i:Nat) (y:Value),vl[i]? =some y->u.cell? ⟨b,p+i,none⟩=some y)
 (hv:(ti.agg=true∧v= .agg ((vl.drop o).take ti.size).toArray∧((vl.drop o).take ti.size).length=ti.size)∨(ti.agg=false∧vl[o]? =some v)):(execOp (ev f) ⟨dst,.load t x,ty,pos,aft,gd⟩).run P u= .ok (.value v) u:=by
 obtain⟨d,hun⟩:=G.un
 rcases hv with ⟨ha,rfl,hl⟩|⟨ha,hv⟩
 ·obtain⟨zz,hty,_⟩:=G.ty
  refine bX hun (G.ag.trans ha) (by rw[hl];exact hty) hx λi y hi=>?_
  rw[List.getElem?_take] at hi
  split at hi
  ·rw[List.getElem?_drop] at hi
   rw[Nat.add_assoc]
   exact hc _ _ hi
  cases hi
 exact aY hun (G.ag.trans ha) hx (hc o v hv)
include hT in
theorem aMi (h:aMa T pg gs s t x k) (hD:Dn ρ0 w0 nb s ρ f w) (hp:sat f gs->sS pg):Pu P f ⟨dst,.load t x,ty,pos,aft,gd⟩ w ρ s.bl.length gs k:=by
 unfold aMa at h
 split at h
 ·next ti ht=>
  have G:=hT t ti ht
  split at h
  ·next j o hx=>
   split at h
   ·next bb hb=>
    obtain⟨T',e,l⟩:=bb
    have h':∃d,k d∧(sat f gs->∀(ρ:Pl) (n:Nat) (w:World) (vl:List Value),Hl ρ n w l vl->∃v,Hd ρ n w d v∧((ti.agg=true∧v= .agg ((vl.drop o).take ti.size).toArray∧((vl.drop o).take ti.size).length=ti.size)∨(ti.agg=false∧vl[o]? =some v))):=by
     cases hz:Nat.beq e 0 with
     |true=>
      simp only[hz,cond_true] at h
      obtain⟨d,h1,h2⟩:=aGm h
      exact⟨d,h1,λ_=>h2⟩
     |false=>
      simp only[hz,cond_false] at h
      unfold ldS at h
      cases ha:ti.agg with
      |true=>
       rw[ha] at h
       obtain⟨r,h1,h2⟩:=h
       refine⟨_,h2,λhs ρ n w vl hl=>?_⟩
       obtain⟨h3,h4⟩:=fD h1 (hp hs)
       subst h3
       refine⟨_,.a ((hl.drop o).take ti.size),.inl ⟨rfl,rfl,?_⟩⟩
       have:=hl.len
       simp only[List.length_take,List.length_drop] at h4 ⊢
       omega
      |false=>
       rw[ha] at h
       obtain⟨c,h1,h2⟩:=h
       refine⟨_,h2,λhs ρ n w vl hl=>?_⟩
       obtain⟨v,h3,h4⟩:=hl.get (fD h1 (hp hs))
       exact⟨v,.c h4,.inr ⟨rfl,h3⟩⟩
    obtain⟨d,hk,hd⟩:=h'
    refine⟨d,hk,λhs=>?_⟩
    obtain⟨hj,b,hρ,he⟩:=(aK hD.f hs hx).inv_c
    obtain⟨vl,junk,hh,hl,_⟩:=(hD.m.ok j T' e l hb).at hρ
    obtain⟨v,hv,hcase⟩:=hd hs ρ s.bl.length w vl hl
    refine⟨v,hv,λu hu=>aDa (p:=0) G (by rw[Nat.zero_add];exact he) (λi y hi=>?_) hcase⟩
    rw[Nat.zero_add]
    exact gC (by rw[(hu rfl).block b (cC hh)];exact hh) hi
   exact h.elim
  ·next A n c e get j o hx=>
   obtain⟨d,hk,hd⟩:=aGm h
   refine⟨d,hk,λhs=>?_⟩
   obtain⟨hr,hj,b,o',hA,he⟩:=(aK hD.f hs hx).inv_c
   obtain⟨b2,o2,hA2,hZ,vl,hcell,hlen,hel⟩:=hr.elem hj
   rw[hA] at hA2
   injection hA2 with hA2
   injection hA2 with e1 e2
   subst e1 e2
   obtain⟨v,hv,hcase⟩:=hd ρ s.bl.length w vl (Hl.of_get hlen λi c y hc hy=>Hc.of_rc (hel i c y hc hy))
   refine⟨v,hv,λu hu=>aDa (p:=o'+j*e) G he (λi y hi=>?_) hcase⟩
   rw[oQ ((hu rfl).block b hZ.lt)]
   exact(hcell i y hi).1
  ·next b o hx=>
   obtain⟨ff,j,h⟩:=h
   split at h
   ·next F hF=>
    cases hft:Nat.ble F.T 999999 with
    |false=>rw[hft] at h;exact h.elim
    |true=>
    rw[hft] at h
    obtain⟨hob,h⟩:=h
    have h':∃d,k d∧(sat f gs->∀(ρ:Pl) (n:Nat) (w:World) (vl:List Value),Hl ρ n w (F.get j) vl->∃v,Hd ρ n w d v∧((ti.agg=true∧v= .agg ((vl.drop o).take ti.size).toArray∧((vl.drop o).take ti.size).length=ti.size)∨(ti.agg=false∧vl[o]? =some v))):=by
     unfold ldS at h
     cases ha:ti.agg with
     |true=>
      rw[ha] at h
      obtain⟨r,h1,h2⟩:=h
      refine⟨_,h2,λhs ρ n w vl hl=>?_⟩
      obtain⟨h3,h4⟩:=fD h1 (hp hs)
      subst h3
      refine⟨_,.a ((hl.drop o).take ti.size),.inl ⟨rfl,rfl,?_⟩⟩
      have:=hl.len
      simp only[List.length_take,List.length_drop] at h4 ⊢
      omega
     |false=>
      rw[ha] at h
      obtain⟨c,h1,h2⟩:=h
      refine⟨_,h2,λhs ρ n w vl hl=>?_⟩
      obtain⟨v,h3,h4⟩:=hl.get (fD h1 (hp hs))
      exact⟨v,.c h4,.inr ⟨rfl,h3⟩⟩
    obtain⟨d,hk,hd⟩:=h'
    refine⟨d,hk,λhs=>?_⟩
    obtain⟨hj,hA⟩:=fD hob (hp hs)
    have he:=(aK hD.f hs hx).inv_c.inv_hp
    obtain⟨vl,junk,hh,hlen,hcl⟩:=(hD.m.fam.mem hD.l hF hj).at hA hft
    obtain⟨v,hv,hcase⟩:=hd hs ρ s.bl.length w vl (Hl.of_get hlen λi c y hc hy=>Hc.of_rc (hcl.1 i c y hc hy))
    refine⟨v,hv,λu hu=>aDa (p:=0) G (by rw[Nat.zero_add];exact he) (λi y hi=>?_) hcase⟩
    rw[Nat.zero_add]
    exact gC (by rw[(hu rfl).block b (cC hh)];exact hh) hi
   exact h.elim
  exact h.elim
 exact h.elim
theorem pV {ka:IntKind} {zz:Int} (h:arK pg ka zz k) (hp:sat f gs->sS pg):∃d,k d∧(sat f gs->∃r,ka.wrap zz=r∧d= .c (.v (.int ka r))):=by
 obtain⟨r,h1,h2⟩:=h
 exact⟨_,h2,λhs=>⟨r,(fD h1 (hp hs)).symm,rfl⟩⟩
include hT in
theorem uN {op:BinOp} {p q:Prop} {ip:Decidable p} {iq:Decidable q} (h:aAx T t op p q ip iq k) (ex:sat f gs->ev f x= .bool (@decide p ip)) (ey:sat f gs->ev f y= .bool (@decide q iq)):Pu P f ⟨dst,.binOp op t x y t',ty,pos,aft,gd⟩ w ρ s.bl.length gs k:=by
 unfold aAx at h
 split at h
 ·next ti ht=>
  cases hb:ti.bo with
  |false=>rw[hb] at h;exact h.elim
  |true=>
   rw[hb] at h
   simp only[cond_true] at h
   have hu:=(hT t ti ht).bo hb
   split at h
   ·refine⟨_,h,λhs=>⟨_,.c (Rc.b _ _),λu _=>?_⟩⟩
    rw[aKf hu (ex hs) (ey hs)]
    by_cases p<;>by_cases q<;>simp_all
   ·refine⟨_,h,λhs=>⟨_,.c (Rc.b _ _),λu _=>?_⟩⟩
    rw[aKg hu (ex hs) (ey hs)]
    by_cases p<;>by_cases q<;>simp_all
   exact h.elim
 exact h.elim
theorem Hl.inv_vs {n:Nat}:∀{vs vl:List Value},Hl ρ n w (vs.map CV.v) vl->vl=vs
 |[],[],_=>rfl
 |[],_::_,h=>h.elim
 |_::_,[],h=>h.elim
 |v::vs,x::vl,h=>by rw[h.1.inv_v,Hl.inv_vs h.2]
theorem aJk {P:Program} (w:World) (d:Nat) (t e:TypeId) (h:P.underlying t=some (.pointer e)):(Op.equalIn (d+1) t (.pointer none) (.pointer none)).run P w= .ok true w:=by
 simp[Op.equalIn,run_underlying h]
theorem aJl {P:Program} (w:World) (d:Nat) (t e:TypeId) (a:Addr) (h:P.underlying t=some (.pointer e)):(Op.equalIn (d+1) t (.pointer (some a)) (.pointer none)).run P w= .ok false w:=by
 simp[Op.equalIn,run_underlying h]
include hT in
theorem aUu {op:BinOp} (h:bAi T t pg gs s op x y k) (hF:Fr s ρ w f) (hp:sat f gs->sS pg):Pu P f ⟨dst,.binOp op t x y t',ty,pos,aft,gd⟩ w ρ s.bl.length gs k:=by
 unfold bAi at h
 split at h
 ·next ka a kb b hx hy=>
  cases hsh:bGy op with
  |true=>
   rw[hsh] at h
   simp only[cond_true] at h
   have ex:sat f gs->ev f x= .int ka a:=λhs=>(aK hF hs hx).inv_c.inv_v
   have ey:sat f gs->ev f y= .int kb b:=λhs=>(aK hF hs hy).inv_c.inv_v
   unfold shI at h
   split at h
   ·obtain⟨h0,h⟩:=h
    obtain⟨d,hd,hh⟩:=pV h hp
    exact⟨d,hd,λhs=>by obtain⟨r,hr,rfl⟩:=hh hs;exact⟨_,.c (Rc.v _),λu _=>pL (ex hs) (ey hs) (fD h0 (hp hs)) hr⟩⟩
   ·obtain⟨h0,r,hr,h⟩:=h
    exact⟨_,h,λhs=>⟨_,.c (Rc.v _),λu _=>jM (ex hs) (ey hs) (fD h0 (hp hs)) (fD hr (hp hs)).symm⟩⟩
   exact h.elim
  |false=>
  rw[hsh] at h
  simp only[cond_false] at h
  cases hk:decide (ka=kb) with
  |false=>rw[hk] at h;exact h.elim
  |true=>
   rw[hk] at h
   have hk':=of_decide_eq_true hk
   subst hk'
   simp only[cond_true] at h
   have ex:sat f gs->ev f x= .int ka a:=λhs=>(aK hF hs hx).inv_c.inv_v
   have ey:sat f gs->ev f y= .int ka b:=λhs=>(aK hF hs hy).inv_c.inv_v
   unfold bGx at h
   split at h
   ·exact⟨_,h,λhs=>⟨_,.c (Rc.b _ _),λu _=>eQ (ex hs) (ey hs)⟩⟩
   ·exact⟨_,h,λhs=>⟨_,.c (Rc.b _ _),λu _=>aKe (ex hs) (ey hs)⟩⟩
   ·exact⟨_,h,λhs=>⟨_,.c (Rc.b _ _),λu _=>oL (ex hs) (ey hs)⟩⟩
   ·exact⟨_,h,λhs=>⟨_,.c (Rc.b _ _),λu _=>sD (ex hs) (ey hs)⟩⟩
   ·exact⟨_,h,λhs=>⟨_,.c (Rc.b _ _),λu _=>iW (ex hs) (ey hs)⟩⟩
   ·exact⟨_,h,λhs=>⟨_,.c (Rc.b _ _),λu _=>mI (ex hs) (ey hs)⟩⟩
   ·obtain⟨d,hd,hh⟩:=pV h hp
    exact⟨d,hd,λhs=>by obtain⟨r,hr,rfl⟩:=hh hs;exact⟨_,.c (Rc.v _),λu _=>dP (ex hs) (ey hs) hr⟩⟩
   ·obtain⟨d,hd,hh⟩:=pV h hp
    exact⟨d,hd,λhs=>by obtain⟨r,hr,rfl⟩:=hh hs;exact⟨_,.c (Rc.v _),λu _=>eH (ex hs) (ey hs) hr⟩⟩
   ·obtain⟨d,hd,hh⟩:=pV h hp
    exact⟨d,hd,λhs=>by obtain⟨r,hr,rfl⟩:=hh hs;exact⟨_,.c (Rc.v _),λu _=>jX (ex hs) (ey hs) hr⟩⟩
   ·obtain⟨h0,h⟩:=h
    obtain⟨d,hd,hh⟩:=pV h hp
    exact⟨d,hd,λhs=>by obtain⟨r,hr,rfl⟩:=hh hs;exact⟨_,.c (Rc.v _),λu _=>pJ (ex hs) (ey hs) (fD h0 (hp hs)) hr⟩⟩
   ·obtain⟨h0,h⟩:=h
    exact⟨_,h,λhs=>⟨_,.c (Rc.v _),λu _=>sC (ex hs) (ey hs) (fD h0 (hp hs)) rfl⟩⟩
   ·obtain⟨d,hd,hh⟩:=pV h hp
    exact⟨d,hd,λhs=>by obtain⟨r,hr,rfl⟩:=hh hs;exact⟨_,.c (Rc.v _),λu _=>xM (ex hs) (ey hs) hr⟩⟩
   ·obtain⟨d,hd,hh⟩:=pV h hp
    exact⟨d,hd,λhs=>by obtain⟨r,hr,rfl⟩:=hh hs;exact⟨_,.c (Rc.v _),λu _=>bGl (ex hs) (ey hs) hr⟩⟩
   exact h.elim
 ·next p hp' q hq' hx hy=>exact uN hT h (λhs=>(aK hF hs hx).inv_c.inv_b) (λhs=>(aK hF hs hy).inv_c.inv_b)
 ·next p hp' q hx hy=>exact uN hT h (λhs=>(aK hF hs hx).inv_c.inv_b) (λhs=>by rw[(aK hF hs hy).inv_c.inv_v];simp)
 ·next p q hq' hx hy=>exact uN hT h (λhs=>by rw[(aK hF hs hx).inv_c.inv_v];simp) (λhs=>(aK hF hs hy).inv_c.inv_b)
 ·next a b hx hy=>
  have ex:sat f gs->ev f x= .string a:=λhs=>(aK hF hs hx).inv_c.inv_v
  have ey:sat f gs->ev f y= .string b:=λhs=>(aK hF hs hy).inv_c.inv_v
  split at h
  ·refine⟨_,h,λhs=>⟨_,.c (Rc.b _ _),λu _=>?_⟩⟩
   simp[execOp,ex hs,ey hs,eqGuard,binOp,Op.stringOp]
   rw[Bool.eq_iff_iff]
   simp
  ·refine⟨_,h,λhs=>⟨_,.c (Rc.b _ _),λu _=>?_⟩⟩
   simp[execOp,ex hs,ey hs,eqGuard,binOp,Op.stringOp]
   rw[Bool.eq_iff_iff]
   simp
  ·refine⟨_,h.2,λhs=>⟨_,.c (Rc.v _),λu _=>?_⟩⟩
   have hsz:=fD h.1 (hp hs)
   have hno:¬(9223372036854775807:Int)<(a.size:Int)+(b.size:Int):=by omega
   simp[execOp,ex hs,ey hs,eqGuard,binOp,Op.stringOp,IntKind.max,hno]
   show(a.size:Int)+(b.size:Int)<=(9223372036854775807:Int)
   omega
  exact h.elim
 ·next A n c e' get hx hy=>
  split at h
  ·next ti hti=>
   cases he:ti.el with
   |none=>rw[he] at h;exact h.elim
   |some e=>
    rw[he] at h
    refine⟨_,h,λhs=>⟨_,.c (Rc.b _ _),λu _=>?_⟩⟩
    rw[aKl ((hT _ _ hti).el e he) (aK hF hs hx).inv_c.inv_r.1 (aK hF hs hy).inv_c.inv_v,Bool.decide_eq_true]
  exact h.elim
 ·next j o hx hy=>
  split at h
  ·next ti hti=>
   cases he:ti.pt with
   |false=>rw[he] at h;exact h.elim
   |true=>
    rw[he] at h
    obtain⟨e,hu⟩:=(hT _ _ hti).pt he
    refine⟨_,h,λhs=>⟨_,.c (Rc.v _),λu _=>?_⟩⟩
    obtain⟨-,b,-,ex⟩:=(aK hF hs hx).inv_c
    have ey:=(aK hF hs hy).inv_c.inv_v
    have h1:(Op.equalIn (9999+1) t (.pointer (some ⟨b,o,none⟩)) (.pointer none)).run P u= .ok false u:=aJl u 9999 t e _ hu
    simp only[execOp,ex,ey,eqGuard,binOp]
    simp[Op.equal,Op.maxDepth,h1]
  exact h.elim
 ·next hx hy=>
  split at h
  ·next ti hti=>
   cases he:ti.pt with
   |false=>rw[he] at h;exact h.elim
   |true=>
    rw[he] at h
    obtain⟨e,hu⟩:=(hT _ _ hti).pt he
    refine⟨_,h,λhs=>⟨_,.c (Rc.v _),λu _=>?_⟩⟩
    have ex:=(aK hF hs hx).inv_c.inv_v
    have ey:=(aK hF hs hy).inv_c.inv_v
    have h1:(Op.equalIn (9999+1) t (.pointer none) (.pointer none)).run P u= .ok true u:=aJk u 9999 t e hu
    simp only[execOp,ex,ey,eqGuard,binOp]
    simp[Op.equal,Op.maxDepth,h1]
  exact h.elim
 ·next l1 l2 hx hy=>
  split at h
  ·next ti hti=>
   obtain⟨vs,h0,h⟩:=h
   refine⟨_,h,λhs=>⟨_,.c (Rc.v _),λu _=>?_⟩⟩
   obtain⟨e1,e2,e3⟩:=fD h0 (hp hs)
   obtain⟨k1,k2⟩:=(hT _ _ hti).ck vs e3
   have ex:ev f x= .agg vs.toArray:=by
    obtain⟨vl,q1,q2⟩:=(aK hF hs hx).inv_a
    rw[e1] at q2
    rw[q1,q2.inv_vs]
   have ey:ev f y= .agg vs.toArray:=by
    obtain⟨vl,q1,q2⟩:=(aK hF hs hy).inv_a
    rw[e2] at q2
    rw[q1,q2.inv_vs]
   have k3:(Op.equalIn 10000 t (.agg vs.toArray) (.agg vs.toArray)).run P u= .ok true u:=k2 u
   simp only[execOp,ex,ey,Sem.run_bind,run_eqGuard_agg u _ _ _ _ _ _ k1,Result.andThen_ok,run_eql_struct,k3,Sem.run_pure]
  exact h.elim
 exact h.elim
theorem bAn {op:UnOp} (h:eUn pg gs s op x k) (hF:Fr s ρ w f) (hp:sat f gs->sS pg):Pu P f ⟨dst,.unOp op t x,ty,pos,aft,gd⟩ w ρ s.bl.length gs k:=by
 unfold eUn at h
 split at h
 ·next p hh hx=>
  split at h
  ·refine⟨_,h,λhs=>⟨_,.c (Rc.b _ _),λu _=>?_⟩⟩
   rw[wN (aK hF hs hx).inv_c.inv_b]
   simp
  exact h.elim
 ·next b hx=>
  split at h
  ·exact⟨_,h,λhs=>⟨_,.c (Rc.v _),λu _=>wN (aK hF hs hx).inv_c.inv_v⟩⟩
  exact h.elim
 ·next ka a hx=>
  split at h
  ·obtain⟨d,hd,hh⟩:=pV h hp
   exact⟨d,hd,λhs=>by obtain⟨r,hr,rfl⟩:=hh hs;exact⟨_,.c (Rc.v _),λu _=>aFv (aK hF hs hx).inv_c.inv_v hr⟩⟩
  exact h.elim
 exact h.elim
include hT in
theorem aMj (h:aMb T pg gs s t t' x k) (hF:Fr s ρ w f) (hp:sat f gs->sS pg):Pu P f ⟨dst,.convert t t' x,ty,pos,aft,gd⟩ w ρ s.bl.length gs k:=by
 unfold aMb at h
 split at h
 ·next t1 ti h1 h2=>
  split at h
  ·next ka kk a hk hx=>
   obtain⟨d0,hd0⟩:=(hT t t1 h1).un
   obtain⟨d,hd,hh⟩:=pV h hp
   exact⟨d,hd,λhs=>by obtain⟨r,hr,rfl⟩:=hh hs;exact⟨_,.c (Rc.v _),λu _=>bR hd0 ((hT t' ti h2).ik _ hk) (aK hF hs hx).inv_c.inv_v hr⟩⟩
  exact h.elim
 exact h.elim
include hT in
theorem aUv (h:bAj T pg gs s t x y k) (hD:Dn ρ0 w0 nb s ρ f w) (hp:sat f gs->sS pg):Pu P f ⟨dst,.indexAddr t x y,ty,pos,aft,gd⟩ w ρ s.bl.length gs k:=by
 unfold bAj at h
 split at h
 ·next ti ht=>
  split at h
  ·next e he=>
   have hu:=(hT t ti ht).el e he
   split at h
   ·next te A n c e' get kk zz hte hx hy=>
    obtain⟨z0,hty,_⟩:=(hT e te hte).ty
    cases hb:Nat.beq e' te.size with
    |false=>rw[hb] at h;exact h.elim
    |true=>
     rw[hb] at h
     have hb':=Nat.eq_of_beq_eq_true hb
     obtain⟨m,hm,h⟩:=(show ∃m:Nat,ob pg (zz=m∧m<n)∧k (.c (.q A n c e' get m 0)) from h)
     refine⟨_,h,λhs=>?_⟩
     obtain⟨hm1,hm2⟩:=fD hm (hp hs)
     obtain⟨h1,h2⟩:=(aK hD.f hs hx).inv_c.inv_r
     obtain⟨b,o,hA,_⟩:=h2.elem hm2
     refine⟨.pointer (some ⟨b,o+m*e'+0,none⟩),.c ⟨h2,hm2,b,o,hA,rfl⟩,λu _=>?_⟩
     have hr:=aJ (P:=P) (w:=u) (dst:=dst) (ty:=ty) (pos:=pos) (aft:=aft) (g:=gd) (b:=b) (o:=o) (n:=n) (c:=c) hu hty (by rw[h1,hA]) (aK hD.f hs hy).inv_c.inv_v oM oM
     rw[hm1,Int.toNat_natCast,<-hb'] at hr
     exact hr
   ·next te i n kk zz hte hx hy=>
    obtain⟨z0,hty,_⟩:=(hT e te hte).ty
    split at h
    ·next bb hbb=>
     obtain⟨T',es,l⟩:=bb
     obtain⟨m,hm,h⟩:=h
     refine⟨_,h,λhs=>?_⟩
     obtain⟨hm1,hm2,hm3⟩:=fD hm (hp hs)
     obtain⟨hi,he⟩:=(aK hD.f hs hx).inv_c
     have hq:=hD.m.ok i T' es l hbb
     cases hb:(ρ i).1 with
     |none=>
      unfold Bq at hq
      simp only[hb] at hq
      rw[hq.1] at hm3
      exact absurd hm3 (Nat.not_lt_zero _)
     |some b=>
      rw[hb] at he
      refine⟨.pointer (some ⟨b,m*te.size,none⟩),.c ⟨hi,b,hb,rfl⟩,λu _=>?_⟩
      have hr:=aJ (P:=P) (w:=u) (dst:=dst) (ty:=ty) (pos:=pos) (aft:=aft) (g:=gd) (b:=b) (o:=0) (n:=n) (c:=(ρ i).2) hu hty he (aK hD.f hs hy).inv_c.inv_v oM oM
      rw[hm1,Int.toNat_natCast,Nat.zero_add] at hr
      exact hr
    exact h.elim
   ·next te A n c kk zz hte hx hy=>
    obtain⟨z0,hty,_⟩:=(hT e te hte).ty
    obtain⟨m,b,hm,h⟩:=h
    refine⟨_,h,λhs=>?_⟩
    obtain⟨hm1,hm2,hA⟩:=fD hm (hp hs)
    subst hA
    refine⟨.pointer (some ⟨b,m*te.size,none⟩),.c (Rc.hp _ _),λu _=>?_⟩
    have hr:=aJ (P:=P) (w:=u) (dst:=dst) (ty:=ty) (pos:=pos) (aft:=aft) (g:=gd) (b:=b) (o:=0) (n:=n) (c:=c) hu hty (aK hD.f hs hx).inv_c.inv_h (aK hD.f hs hy).inv_c.inv_v oM oM
    rw[hm1,Int.toNat_natCast,Nat.zero_add] at hr
    exact hr
   exact h.elim
  exact h.elim
 exact h.elim
theorem pW {u:World} {kk:IntKind} {i:Int} {b o n size bytes:Nat} {zz:Value} {e:TypeId} (hu:P.underlying t=some (.array n e)) (ht:TyI P e size bytes zz) (hx:ev f x= .pointer (some ⟨b,o,none⟩)) (hy:ev f y= .int kk i) (h0:0<=i) (h1:i<n):
 (execOp (ev f) ⟨dst,.indexAddr t x y,ty,pos,aft,gd⟩).run P u= .ok (.value (.pointer (some ⟨b,o+i.toNat*size,none⟩))) u:=by
 obtain⟨ii,hi,_,hs,_⟩:=ht.ex
 simp[execOp,hx,hy,Instr.indexAt,Instr.sureAddr,asIntOf,run_underlying hu,sizeOf,typeInfo,hi,hs,h0,h1,cS]
include hT in
theorem aMk (h:aMc T pg gs s t x y k) (hF:Fr s ρ w f) (hp:sat f gs->sS pg):Pu P f ⟨dst,.indexAddr t x y,ty,pos,aft,gd⟩ w ρ s.bl.length gs k:=by
 unfold aMc at h
 split at h
 ·next ti ht=>
  split at h
  ·next n e es i o kk z har hx hy=>
   obtain⟨hu,by',zz,hty⟩:=(hT t ti ht).ar n e es har
   obtain⟨m,hm,h⟩:=h
   refine⟨_,h,λhs=>?_⟩
   obtain⟨hm1,hm2⟩:=fD hm (hp hs)
   obtain⟨hi,b,hb,he⟩:=(aK hF hs hx).inv_c
   refine⟨.pointer (some ⟨b,o+m*es,none⟩),.c ⟨hi,b,hb,rfl⟩,λu _=>?_⟩
   have hr:=pW (P:=P) (u:=u) (dst:=dst) (ty:=ty) (pos:=pos) (aft:=aft) (gd:=gd) hu hty he (aK hF hs hy).inv_c.inv_v oM oM
   rw[hm1,Int.toNat_natCast] at hr
   exact hr
  ·next n e es A nn c e' get j o kk z har hx hy=>
   obtain⟨hu,by',zz,hty⟩:=(hT t ti ht).ar n e es har
   obtain⟨m,hm,h⟩:=h
   refine⟨_,h,λhs=>?_⟩
   obtain⟨hm1,hm2⟩:=fD hm (hp hs)
   obtain⟨hr0,hj,b,o',hA,he⟩:=(aK hF hs hx).inv_c
   refine⟨.pointer (some ⟨b,o'+j*e'+(o+m*es),none⟩),.c ⟨hr0,hj,b,o',hA,rfl⟩,λu _=>?_⟩
   have hr:=pW (P:=P) (u:=u) (dst:=dst) (ty:=ty) (pos:=pos) (aft:=aft) (gd:=gd) hu hty he (aK hF hs hy).inv_c.inv_v oM oM
   rw[hm1,Int.toNat_natCast,Nat.add_assoc (o'+j*e')] at hr
   exact hr
  exact h.elim
 exact h.elim
include hT in
theorem aMl (h:aMd T pg gs s t x y k) (hF:Fr s ρ w f) (hp:sat f gs->sS pg):Pu P f ⟨dst,.index t x y,ty,pos,aft,gd⟩ w ρ s.bl.length gs k:=by
 unfold aMd at h
 split at h
 ·next ti ht=>
  cases hb:ti.str with
  |false=>rw[hb] at h;exact h.elim
  |true=>
   rw[hb] at h
   simp only[cond_true] at h
   split at h
   ·next a kk z hx hy=>
    obtain⟨m,b,hm,h⟩:=h
    refine⟨_,h,λhs=>?_⟩
    obtain⟨hm1,hm2⟩:=fD hm (hp hs)
    refine⟨_,.c (Rc.v _),λu _=>?_⟩
    have hx':=(aK hF hs hx).inv_c.inv_v
    have hy':=(aK hF hs hy).inv_c.inv_v
    have h0:0<=z:=by omega
    have hz:z.toNat=m:=by omega
    simp[execOp,hx',hy',Instr.index,asIntOf,run_underlying ((hT t ti ht).str hb),h0,hz,hm2]
   exact h.elim
 exact h.elim
include hT in
theorem bAo {lo hi:Option Operand} (h:eSl T pg gs s t x lo hi k) (hD:Dn ρ0 w0 nb s ρ f w) (hp:sat f gs->sS pg):Pu P f ⟨dst,.slice t x lo hi none,ty,pos,aft,gd⟩ w ρ s.bl.length gs k:=by
 have hF:=hD.f
 unfold eSl at h
 split at h
 ·next ti ht=>
  split at h
  ·next e he=>
   have hu:=(hT t ti ht).el e he
   split at h
   ·next te A n c e' get hte hx=>
    obtain⟨zz,hty,_⟩:=(hT e te hte).ty
    cases hb:Nat.beq e' te.size with
    |false=>rw[hb] at h;exact h.elim
    |true=>
     rw[hb] at h
     simp only[cond_true] at h
     have hb':=Nat.eq_of_beq_eq_true hb
     split at h
     ·next y=>
      split at h
      ·next kk z hy=>
       obtain⟨m,hm,h⟩:=h
       refine⟨_,h,λhs=>?_⟩
       obtain⟨hm1,hm2⟩:=fD hm (hp hs)
       obtain⟨e1,e2⟩:=(aK hF hs hx).inv_c.inv_r
       have hcn:n<=c∧c<=maxLen:=by
        cases e2 with
        |nil A c e get hm=>exact⟨Nat.zero_le _,hm⟩
        |r b o n c e get V hc hm=>exact⟨hc,hm⟩
       refine⟨.slice A m c,.c (Hc.of_rc ?_),λu _=>?_⟩
       ·cases e2 with
        |nil A c e get hmx=>
         have:m=0:=by omega
         subst this
         exact Rc.nil _ _ _ _ hmx
        |r b o n c e get V hc hmx hZ hcell hlen hel=>exact Rc.r b o m c e' get V oM hmx hZ (λj hj=>hcell j oM) (λj hj=>hlen j oM) (λj hj=>hel j oM)
       have hr:=rB (P:=P) (w:=u) (dst:=dst) (ty:=ty) (pos:=pos) (aft:=aft) (g:=gd) hu hty e1 (aK hF hs hy).inv_c.inv_v oM oM
       rw[hm1,Int.toNat_natCast] at hr
       exact hr
      exact h.elim
     ·next y=>
      split at h
      ·next kk z hy=>
       obtain⟨m,hm,h⟩:=h
       refine⟨_,h,λhs=>?_⟩
       obtain⟨hm1,hm2⟩:=fD hm (hp hs)
       obtain⟨e1,e2⟩:=(aK hF hs hx).inv_c.inv_r
       refine⟨.slice (slA A c m e') (n-m) (c-m),.c (Hc.of_rc ?_),λu _=>?_⟩
       ·cases e2 with
        |nil A c e get hmx=>rw[Nat.zero_sub];exact Rc.nil _ _ _ _ oM
        |r b o n c e get V hc hmx hZ hcell hlen hel=>
         by_cases h0:n-m=0
         ·rw[h0];exact Rc.nil _ _ _ _ oM
         have hA:slA (some ⟨b,o,none⟩) c m e'=some ⟨b,o+m*e',none⟩:=by
          unfold slA
          rw[if_neg oM]
          simp[cS]
         rw[hA]
         refine Rc.r b (o+m*e') (n-m) (c-m) e' (λj=>get (j+m)) (λj=>V (j+m)) oM oM hZ (λj hj i u hu=>?_) (λj hj=>hlen (j+m) oM) (λj hj=>hel (j+m) oM)
         have:=hcell (j+m) oM i u hu
         rw[show o+m*e'+j*e'+i=o+(j+m)*e'+i by rw[Nat.add_mul];omega]
         exact this
       have hr:=rC (P:=P) (w:=u) (dst:=dst) (ty:=ty) (pos:=pos) (aft:=aft) (g:=gd) hu hty e1 (aK hF hs hy).inv_c.inv_v oM oM
       rw[hm1,Int.toNat_natCast,<-hb'] at hr
       exact hr
      exact h.elim
     exact h.elim
   ·next te i n hte hx=>
    obtain⟨zz,hty,_⟩:=(hT e te hte).ty
    split at h
    ·next bb hbb=>
     obtain⟨Tb,eb,lb⟩:=bb
     cases hb:(Nat.beq eb te.size&&Nat.ble 1 te.size) with
     |false=>simp only[hb,cond_false] at h
     |true=>
      simp only[hb,cond_true] at h
      simp only[Bool.and_eq_true] at hb
      have hb':=Nat.eq_of_beq_eq_true hb.1
      subst hb'
      have hpos:=Nat.le_of_ble_eq_true hb.2
      split at h
      ·next y=>
       split at h
       ·next kk z hy=>
        obtain⟨m,hm,h⟩:=h
        refine⟨_,h,λhs=>?_⟩
        obtain⟨hm1,hm2⟩:=fD hm (hp hs)
        obtain⟨hi,he⟩:=(aK hF hs hx).inv_c
        have hcap:m<=(ρ i).2:=by
         have hq:=hD.m.ok i Tb te.size lb hbb
         unfold Bq at hq
         cases hρ:(ρ i).1 with
         |none=>
          simp only[hρ] at hq
          rw[hq.1] at hm2
          have:m=0:=by
           rcases Nat.eq_zero_or_pos m with h0|h0
           ·exact h0
           have:=Nat.mul_le_mul h0 hpos;simp at hm2;omega
          omega
         |some b=>
          simp only[hρ] at hq
          obtain⟨vl,junk,_,q2,q3,_⟩:=hq
          have h1:=(q3 hpos).1
          have h2:=q2.len
          rw[List.length_append] at h1
          have h3:m*te.size<=(ρ i).2*te.size:=by omega
          exact Nat.le_of_mul_le_mul_right h3 hpos
        refine⟨.slice ((ρ i).1.map λb=>⟨b,0,none⟩) m (ρ i).2,.c ⟨hi,rfl⟩,λu _=>?_⟩
        have hr:=rB (P:=P) (w:=u) (dst:=dst) (ty:=ty) (pos:=pos) (aft:=aft) (g:=gd) hu hty he (aK hF hs hy).inv_c.inv_v oM oM
        rw[hm1,Int.toNat_natCast] at hr
        exact hr
       exact h.elim
      ·next y=>
       split at h
       ·next kk z hy=>
        obtain⟨l,hm,h⟩:=h
        refine⟨_,h,λhs=>?_⟩
        obtain⟨hm1,hm2,hm3⟩:=fD hm (hp hs)
        obtain⟨hi,he⟩:=(aK hF hs hx).inv_c
        have hcap:n<=(ρ i).2∧(ρ i).2<=maxLen∧(n≠0->∃b,(ρ i).1=some b):=by
         have hq:=hD.m.ok i Tb te.size lb hbb
         unfold Bq at hq
         cases hρ:(ρ i).1 with
         |none=>
          simp only[hρ] at hq
          rw[hq.1] at hm3
          have:n=0:=by
           rcases Nat.eq_zero_or_pos n with h0|h0
           ·exact h0
           have:=Nat.mul_le_mul h0 hpos;simp at hm3;omega
          exact⟨by omega,by rw[hq.2.1];exact Nat.zero_le _,λh=>absurd this h⟩
         |some b=>
          simp only[hρ] at hq
          obtain⟨vl,junk,_,q2,q3,_⟩:=hq
          have h1:=(q3 hpos).1
          have h2:=q2.len
          rw[List.length_append] at h1
          have h3:n*te.size<=(ρ i).2*te.size:=by omega
          exact⟨Nat.le_of_mul_le_mul_right h3 hpos,(q3 hpos).2,λ_=>⟨b,rfl⟩⟩
        refine⟨.slice (if (ρ i).2=l then (ρ i).1.map (λb=>(⟨b,0,none⟩:Addr)) else ((ρ i).1.map λb=>(⟨b,0,none⟩:Addr)).map (·.add (l*te.size))) (n-l) ((ρ i).2-l),.c ⟨hi,_,_,by omega,by omega,rfl,?_⟩,λu _=>?_⟩
        ·by_cases h0:n-l=0
         ·exact .inl h0
         obtain⟨b,hb⟩:=hcap.2.2 oM
         refine .inr ⟨b,hb,?_⟩
         rw[if_neg oM,hb]
         simp[cS]
        have hr:=rC (P:=P) (w:=u) (dst:=dst) (ty:=ty) (pos:=pos) (aft:=aft) (g:=gd) hu hty he (aK hF hs hy).inv_c.inv_v oM oM
        rw[hm1,Int.toNat_natCast] at hr
        exact hr
       exact h.elim
      exact h.elim
    exact h.elim
   exact h.elim
  cases hb:ti.str with
  |false=>rw[hb] at h;exact h.elim
  |true=>
   rw[hb] at h
   simp only[cond_true] at h
   split at h
   ·next a y y' hx=>
    split at h
    ·next k1 z k2 z' hy hy'=>
     obtain⟨l,m,hm,h⟩:=h
     refine⟨_,h,λhs=>⟨_,.c (Rc.v _),λu _=>?_⟩⟩
     obtain⟨h1,h2,h3,h4⟩:=fD hm (hp hs)
     subst h1 h2
     have e1:=(aK hF hs hx).inv_c.inv_v
     have e2:=(aK hF hs hy).inv_c.inv_v
     have e3:=(aK hF hs hy').inv_c.inv_v
     have hno:¬(a.size:Int)<(m:Int):=by omega
     have hno2:¬(m:Int)<(l:Int):=by omega
     simp[execOp,e1,e2,e3,Instr.sliceAt,Instr.slice,Instr.sliceBounds,Instr.sliceBound,asIntOf,run_underlying ((hT t ti ht).str hb),hno,hno2,h3,h4]
    exact h.elim
   exact h.elim
 exact h.elim
include hT in
theorem aMm {i:Nat} (h:aMe T gs s t x i k) (hF:Fr s ρ w f):Pu P f ⟨dst,.field t x i,ty,pos,aft,gd⟩ w ρ s.bl.length gs k:=by
 unfold aMe at h
 split at h
 ·next ti ht=>
  split at h
  ·next fi hfi=>
   split at h
   ·next l hx=>
    rcases (hT t ti ht).fs with h0|⟨F,hFF,_,hh⟩
    ·rw[h0] at hfi;cases hfi
    obtain⟨fl,h1,h2,h3,h4,⟨dd,h5⟩,by',zz,h6⟩:=hh i fi hfi
    obtain⟨d,hk,hd⟩:=aGm h
    refine⟨d,hk,λhs=>?_⟩
    obtain⟨vl,he,hl⟩:=(aK hF hs hx).inv_a
    obtain⟨v,hv,hcase⟩:=hd ρ s.bl.length w vl hl
    refine⟨v,hv,λu _=>?_⟩
    rw[<-h3] at h4 h5 h6
    rcases hcase with ⟨ha,rfl,hlen⟩|⟨ha,hv⟩
    ·have hr:=aKh (P:=P) (w:=u) (dst:=dst) (ty:=ty) (pos:=pos) (aft:=aft) (g:=gd) hFF h1 h5 (h4.trans ha) h6 he
     rw[hr,h2]
     simp
    exact aTv hFF h1 h5 (h4.trans ha) he (by rw[h2];simpa using hv)
   exact h.elim
  exact h.elim
 exact h.elim
theorem aUw {i:Nat} (h:bAk gs s x i k) (hF:Fr s ρ w f):Pu P f ⟨dst,.extract x i,ty,pos,aft,gd⟩ w ρ s.bl.length gs k:=by
 unfold bAk at h
 split at h
 ·next l hx=>
  split at h
  ·next d hd=>
   refine⟨d,h,λhs=>?_⟩
   obtain⟨vl,he,hlen,hh⟩:=(aK hF hs hx).inv_t
   have hlt:i<vl.length:=by rw[<-hlen];exact bK hd
   exact⟨vl[i],hh i d _ hd (List.getElem?_eq_getElem hlt),λu _=>aI he (by simp[hlt])⟩
  exact h.elim
 exact h.elim
theorem bAp {u:World} {a:ByteArray} (ht:P.underlying t=some .string) (hx:ev f x= .string a):(execOp (ev f) ⟨dst,.call ⟨.builtin .len,#[x],#[t]⟩,ty,pos,aft,gd⟩).run P u= .ok (.value (.int .i64 a.size)) u:=by
 simp[execOp,resolve,invoke,builtin,Builtin.len_,run_underlying ht,hx,goInt]
include hT in
theorem aUx (h:bAl T gs s t x k) (hF:Fr s ρ w f):Pu P f ⟨dst,.call ⟨.builtin .len,#[x],#[t]⟩,ty,pos,aft,gd⟩ w ρ s.bl.length gs k:=by
 unfold bAl at h
 split at h
 ·next ti ht=>
  have hel:∀{b:Bool} {q:Prop},(bif ti.el.isSome then q else False)->q∧∃e,P.underlying t=some (.slice e):=λ{_ q} hq=>by
   cases he:ti.el with
   |none=>rw[he] at hq;exact hq.elim
   |some e=>rw[he] at hq;exact⟨hq,e,(hT t ti ht).el e he⟩
  split at h
  ·next A n c e get hx=>
   obtain⟨h,e,hu⟩:=hel (b:=true) h
   exact⟨_,h,λhs=>⟨_,.c (Rc.v _),λu _=>cK hu (aK hF hs hx).inv_c.inv_r.1⟩⟩
  ·next i n hx=>
   obtain⟨h,e,hu⟩:=hel (b:=true) h
   exact⟨_,h,λhs=>⟨_,.c (Rc.v _),λu _=>cK hu (aK hF hs hx).inv_c.2⟩⟩
  ·next A n c hx=>
   obtain⟨h,e,hu⟩:=hel (b:=true) h
   exact⟨_,h,λhs=>⟨_,.c (Rc.v _),λu _=>cK hu (aK hF hs hx).inv_c.inv_h⟩⟩
  ·next A n c hx=>
   obtain⟨h,e,hu⟩:=hel (b:=true) h
   exact⟨_,h,λhs=>⟨_,.c (Rc.v _),λu _=>cK hu (aK hF hs hx).inv_c.inv_v⟩⟩
  ·next a hx=>
   cases hb:ti.str with
   |false=>rw[hb] at h;exact h.elim
   |true=>
    rw[hb] at h
    exact⟨_,h,λhs=>⟨_,.c (Rc.v _),λu _=>bAp ((hT t ti ht).str hb) (aK hF hs hx).inv_c.inv_v⟩⟩
  exact h.elim
 exact h.elim
theorem aMn {mx:Bool} (h:eMm mx gs s x y k) (hF:Fr s ρ w f):Pu P f ⟨dst,.call ⟨.builtin (bif mx then .max else .min),#[x,y],#[t,t']⟩,ty,pos,aft,gd⟩ w ρ s.bl.length gs k:=by
 unfold eMm at h
 split at h
 ·next ka a kb b hx hy=>
  cases hk:decide (ka=kb) with
  |false=>rw[hk] at h;exact h.elim
  |true=>
   rw[hk] at h
   have hk':=of_decide_eq_true hk
   subst hk'
   refine⟨_,h,λhs=>⟨_,.c (Rc.v _),λu _=>?_⟩⟩
   cases mx
   ·have:=aZg (P:=P) (w:=u) (dst:=dst) (ty:=ty) (pos:=pos) (aft:=aft) (g:=gd) (t:=t) (t':=t') (aK hF hs hx).inv_c.inv_v (aK hF hs hy).inv_c.inv_v
    rw[show(if b<a then b else a)=min a b by omega] at this
    exact this
   have:=aZf (P:=P) (w:=u) (dst:=dst) (ty:=ty) (pos:=pos) (aft:=aft) (g:=gd) (t:=t) (t':=t') (aK hF hs hx).inv_c.inv_v (aK hF hs hy).inv_c.inv_v
   rw[show(if b>a then b else a)=max a b by omega] at this
   exact this
 exact h.elim
theorem mZ {t:Nat} {b:Bool} (h:f t= .bool b) (hs:sat f gs):sat f ((t,b)::gs):=λp hp=>by
 rcases List.mem_cons.1 hp with rfl|hp
 ·exact h
 exact hs p hp
theorem aMo (h:aMf gs s x y z k) (hF:Fr s ρ w f):Pu P f ⟨dst,.pick x y z,ty,pos,aft,gd⟩ w ρ s.bl.length gs k:=by
 unfold aMf at h
 split at h
 ·next tt=>
  split at h
  ·next b hx=>
   cases b with
   |true=>
    simp only[cond_true] at h
    unfold sL at h
    split at h
    ·next d hy=>
     refine⟨d,h,λhs=>?_⟩
     have e:ev f (.tmp tt)= .bool true:=(aK hF hs hx).inv_c.inv_v
     exact⟨_,aK hF (mZ e hs) hy,λu _=>dV e rfl⟩
    exact h.elim
   |false=>
    simp only[cond_false] at h
    unfold sL at h
    split at h
    ·next d hy=>
     refine⟨d,h,λhs=>?_⟩
     have e:ev f (.tmp tt)= .bool false:=(aK hF hs hx).inv_c.inv_v
     exact⟨_,aK hF (mZ e hs) hy,λu _=>eP e rfl⟩
    exact h.elim
  ·next c hnot hx=>
   split at h
   ·next p q hy hz=>
    have key:∀(pp:Prop) (hp:Decidable pp) (d:DV),c= .c (.b pp hp)->(pp->∀v,Hd ρ s.bl.length w p v->Hd ρ s.bl.length w d v)->(¬pp->∀v,Hd ρ s.bl.length w q v->Hd ρ s.bl.length w d v)->sat f gs->Cal P f ⟨dst,.pick (.tmp tt) y z,ty,pos,aft,gd⟩ w ρ s.bl.length d:=by
     intro pp hp d hc h1 h2 hs
     subst hc
     have e:ev f (.tmp tt)= .bool (decide pp):=(aK hF hs hx).inv_c.inv_b
     by_cases hpp:pp
     ·rw[decide_eq_true hpp] at e
      exact⟨_,h1 hpp _ (aK hF (mZ e hs) hy),λu _=>dV e rfl⟩
     rw[decide_eq_false hpp] at e
     exact⟨_,h2 hpp _ (aK hF (mZ e hs) hz),λu _=>eP e rfl⟩
    have bd:∀{a b:Prop} {ha:Decidable a} {hb:Decidable b} {v:Value},(a↔b)->Hd ρ s.bl.length w (.c (.b a ha)) v->Hd ρ s.bl.length w (.c (.b b hb)) v:=λ{a b ha hb v} hab hv=>by
     have:=hv.inv_c.inv_b
     subst this
     have:decide a=decide b:=decide_eq_decide.2 hab
     rw[this]
     exact .c (Rc.b _ _)
    have bl:∀{a:Bool} {b:Prop} {hb:Decidable b} {v:Value},(a=true↔b)->Hd ρ s.bl.length w (.c (.v (.bool a))) v->Hd ρ s.bl.length w (.c (.b b hb)) v:=λ{a b hb v} hab hv=>by
     have:=hv.inv_c.inv_v
     subst this
     have:a=decide b:=by rw[Bool.eq_iff_iff,hab];simp
     rw[this]
     exact .c (Rc.b _ _)
    unfold aYh at h
    split at h
    ·next pp hp qq hq zb=>
     cases zb
     ·exact⟨_,h,key pp hp _ rfl (λh1 v hv=>bd (by simp[h1]) hv) (λh1 v hv=>bl (by simp[h1]) hv)⟩
     exact⟨_,h,key pp hp _ rfl (λh1 v hv=>bd (by simp[h1]) hv) (λh1 v hv=>bl (by simp[h1]) hv)⟩
    ·next pp hp yb qq hq=>
     cases yb
     ·exact⟨_,h,key pp hp _ rfl (λh1 v hv=>bl (by simp[h1]) hv) (λh1 v hv=>bd (by simp[h1]) hv)⟩
     exact⟨_,h,key pp hp _ rfl (λh1 v hv=>bl (by simp[h1]) hv) (λh1 v hv=>bd (by simp[h1]) hv)⟩
    ·next pp hp qq hq rr hr=>
     exact⟨_,h,key pp hp _ rfl (λh1 v hv=>bd (by simp[h1]) hv) (λh1 v hv=>bd (by simp[h1]) hv)⟩
    ·next pp hp yb zb=>
     cases yb<;>cases zb<;>first|exact h.elim|exact⟨_,h,key pp hp _ rfl (λ_ v hv=>hv) (λ_ v hv=>hv)⟩|exact⟨_,h,key pp hp _ rfl (λh1 v hv=>bl (by simp[h1]) hv) (λh1 v hv=>bl (by simp[h1]) hv)⟩
    exact h.elim
   exact h.elim
  exact h.elim
 exact h.elim
theorem aGn {l:List Operand} {kk:List (Nat×Nat)->Prop} (h:aMg gs s l kk) (hF:Fr s ρ w f):∃r,kk r∧(sat f gs->(∀p∈r,p.1<s.bl.length∧(ρ p.1).1≠none)∧l.map (ev f)=r.map (ptr ρ)):=by
 induction l generalizing kk with
 |nil=>exact⟨[],h,λ_=>⟨λp hp=>absurd hp List.not_mem_nil,rfl⟩⟩
 |cons x l ih=>
  unfold aMg at h
  split at h
  ·next i o hx=>
   obtain⟨r,h1,h2⟩:=ih h
   refine⟨_,h1,λhs=>?_⟩
   obtain⟨h3,h4⟩:=h2 hs
   obtain⟨hi,b,hb,he⟩:=(aK hF hs hx).inv_c
   refine⟨λp hp=>?_,by rw[List.map_cons,List.map_cons,h4,he];simp[ptr,hb]⟩
   rcases List.mem_cons.1 hp with rfl|hp
   ·exact⟨hi,by simp[hb]⟩
   exact h3 p hp
  exact h.elim
theorem aUy {fn:Fn} {fi ca:List Operand} (h:bAm gs s fn fi ca k) (hF:Fr s ρ w f):Pu P f ⟨dst,.makeFunc fn fi.toArray ca.toArray,ty,pos,aft,gd⟩ w ρ s.bl.length gs k:=by
 unfold bAm at h
 split at h
 ·next q=>
  obtain⟨a,h1,ha⟩:=aGn h hF
  obtain⟨b,h2,hb⟩:=aGn h1 hF
  refine⟨_,h2,λhs=>?_⟩
  obtain⟨a1,a2⟩:=ha hs
  obtain⟨b1,b2⟩:=hb hs
  refine⟨_,.c ⟨λp hp=>?_,rfl⟩,λu _=>by simp[execOp,Instr.makeFunc,a2,b2]⟩
  rcases List.mem_append.1 hp with hp|hp
  ·exact a1 p hp
  exact b1 p hp
 exact h.elim
end ops
/-! ### lists whose spine is computed at once -/
def ovK:List CV->List CV->(List CV->Prop)->Prop
 |l,[],k=>k l
 |_::l,v::vs,k=>ovK l vs λr=>k (v::r)
 |[],_::_,_=>False
def aMp:Nat->List CV->List CV->(List CV->Prop)->Prop
 |0,l,vs,k=>ovK l vs k
 |o+1,c::l,vs,k=>aMp o l vs λr=>k (c::r)
 |_+1,[],_,_=>False
def fG (l:List CV) (o:Nat) (vs:List CV):List CV:=l.take o++(vs++l.drop (o+vs.length))
theorem aMq:∀{l vs:List CV} {k:List CV->Prop},ovK l vs k->vs.length<=l.length∧k (vs++l.drop vs.length)
 |l,[],k,h=>by cases l<;>exact⟨Nat.zero_le _,by simpa[ovK] using h⟩
 |[],v::vs,k,h=>h.elim
 |c::l,v::vs,k,h=>by
  obtain⟨h1,h2⟩:=aMq (l:=l) (vs:=vs) h
  exact⟨Nat.succ_le_succ h1,by simpa using h2⟩
theorem xV:∀{o:Nat} {l vs:List CV} {k:List CV->Prop},aMp o l vs k->o+vs.length<=l.length∧k (fG l o vs)
 |0,l,vs,k,h=>by
  obtain⟨h1,h2⟩:=aMq (show ovK l vs k from by cases l<;>exact h)
  exact⟨by omega,by simpa[fG] using h2⟩
 |o+1,[],vs,k,h=>h.elim
 |o+1,c::l,vs,k,h=>by
  obtain⟨h1,h2⟩:=xV (o:=o) (l:=l) (vs:=vs) h
  refine⟨by simp only[List.length_cons];omega,?_⟩
  have e:fG (c::l) (o+1) vs=c::fG l o vs:=by
   simp[fG,show o+1+vs.length=(o+vs.length)+1 by omega]
  rw[e]
  exact h2
theorem xW {ρ:Pl} {n:Nat} {w:World} {l vs:List CV} {vl us:List Value} (o:Nat) (h:Hl ρ n w l vl) (h2:Hl ρ n w vs us):Hl ρ n w (fG l o vs) (spl vl o us):=by
 unfold fG spl
 rw[h2.len,List.append_assoc]
 exact(h.take o).append (h2.append (h.drop _))
def kB {α:Type}:List α->α->(List α->Prop)->Prop
 |[],x,k=>k [x]
 |a::l,x,k=>kB l x λr=>k (a::r)
theorem fL {α:Type}:∀{l:List α} {x:α} {k:List α->Prop},kB l x k->k (l++[x])
 |[],x,k,h=>h
 |a::l,x,k,h=>fL (l:=l) h
def gR {α:Type}:List α->Nat->α->(List α->Prop)->Prop
 |[],_,_,k=>k []
 |_::l,0,x,k=>k (x::l)
 |a::l,i+1,x,k=>gR l i x λr=>k (a::r)
theorem dZ {α:Type}:∀{l:List α} {i:Nat} {x:α} {k:List α->Prop},gR l i x k->k (l.set i x)
 |[],_,_,_,h=>h
 |_::l,0,x,k,h=>h
 |a::l,i+1,x,k,h=>dZ (l:=l) h
def cnt {α:Type}:List α->Nat->Nat
 |[],n=>n
 |_::l,n=>cnt l (n+1)
theorem aMr {α:Type}:∀(l:List α) (n:Nat),cnt l n=n+l.length
 |[],n=>rfl
 |_::l,n=>by
  show cnt l (n+1)=_
  rw[aMr l (n+1),List.length_cons]
  omega
theorem nW {α:Type} (l:List α):cnt l 0=l.length:=by rw[aMr,Nat.zero_add]
def cellsOf:DV->List CV
 |.a l=>l
 |.c c=>[c]
 |.t _=>[]
def sT:CV->Bool
 |.u=>false
 |.t _ _ _=>false
 |.v x=>x.oneCell'
 |_=>true
def cW:CV->Bool
 |.u=>true
 |.v _=>true
 |.h _ _ _=>true
 |.hp _ _=>true
 |.b _ _=>true
 |.r _ _ _ _ _=>true
 |_=>false
def isT:DV->Bool
 |.t _=>true
 |_=>false
section
variable {ρ:Pl} {n:Nat} {w:World}
theorem xX {c:CV} {x:Value} (h:Hc ρ n w c x) (ho:sT c=true):x.oneCell'=true:=by
 cases c with
 |u=>cases ho
 |v y=>rw[h.inv_v];exact ho
 |h A n c=>cases (show Rc _ w (.h A n c) x from h);rfl
 |hp b o=>cases (show Rc _ w (.hp b o) x from h);rfl
 |b p hp=>rw[h.inv_b];rfl
 |p i o=>obtain⟨_,b,_,rfl⟩:=h;rfl
 |s i m=>obtain⟨_,rfl⟩:=h;rfl
 |r A m c e get=>rw[h.inv_r.1];rfl
 |q A m c e get j o=>obtain⟨_,_,b,o',_,rfl⟩:=h;rfl
 |t i o m=>cases ho
 |f k fi ca=>obtain⟨_,rfl⟩:=h;rfl
theorem Hl.one {l:List CV} {vl:List Value} (h:Hl ρ n w l vl) (ho:l.all sT=true):∀x∈vl,x.oneCell'=true:=by
 induction l generalizing vl with
 |nil=>cases vl with
  |nil=>intro x hx;cases hx
  |cons x vl=>exact h.elim
 |cons c l ih=>cases vl with
  |nil=>exact h.elim
  |cons x vl=>
   simp only[List.all_cons,Bool.and_eq_true] at ho
   intro y hy
   rcases List.mem_cons.1 hy with rfl|hy
   ·exact xX h.1 ho.1
   exact ih h.2 ho.2 y hy
theorem pX {x:Value} (h:x.oneCell'=true):x.cells=#[x]:=by
 cases x with
 |agg cs=>cases h
 |_=>rfl
theorem pY {d:DV} {x:Value} (h:Hd ρ n w d x) (ho:(cellsOf d).all sT=true) (ht:isT d=false):∃us,x.cells=us.toArray∧Hl ρ n w (cellsOf d) us∧∀y∈us,y.oneCell'=true:=by
 cases h with
 |c h=>
  simp only[cellsOf,List.all_cons,List.all_nil,Bool.and_true] at ho
  exact⟨[x],by rw[pX (xX h ho)],⟨h,trivial⟩,λy hy=>by rw[List.mem_singleton.1 hy];exact xX h ho⟩
 |a h=>exact⟨_,rfl,h,h.one ho⟩
 |t h hh=>cases ht
end
/-! ### what they leave -/
def Hv (ex:Bool) (P:Program) (f:Nat->Value) (o:Oper) (ρ0:Pl) (w0:World) (nb:Nat) (w:World) (k:SS->DV->Prop):Prop:=
 ∃s' d ρ' v w',k s' d∧(execOp (ev f) o).run P w= .ok (.value v) w'∧Dn ρ0 w0 nb s' ρ' f w'∧Hd ρ' s'.bl.length w' d v∧(ex=true->Ext w w')
def Hs (P:Program) (f:Nat->Value) (o:Oper) (ρ0:Pl) (w0:World) (nb:Nat) (w:World) (k:SS->Prop):Prop:=
 ∃s' ρ' w',k s'∧(execOp (ev f) o).run P w= .ok .skip w'∧Dn ρ0 w0 nb s' ρ' f w'
def upd {α:Type} (f:Nat->α) (j:Nat) (x:α):Nat->α:=λi=>if i=j then x else f i
theorem aT {α:Type} {f:Nat->α} {j:Nat} {x:α}:upd f j x j=x:=if_pos rfl
theorem aP {α:Type} {f:Nat->α} {j i:Nat} {x:α} (h:i≠j):upd f j x i=f i:=if_neg h
structure Wc (A:Option Nat) (w w':World):Prop where
 os:w'.os=w.os
 tape:w'.tape=w.tape
 output:w'.output=w.output
 size:w.heap.size<=w'.heap.size
 block:∀b,b<w.heap.size->A≠some b->w'.heap[b]? =w.heap[b]?
section fset
variable {ρ ρ0:Pl} {w w' w0:World} {nb:Nat} {bl:List (TypeId×Nat×List CV)}
theorem jC {α:Type} {l:List α} {f i:Nat} {x y:α} (h:(l.set f x)[i]? =some y) (hf:f<l.length):(i=f∧y=x)∨(i≠f∧l[i]? =some y):=by
 rcases fK h with ⟨h1,h2,_⟩|h
 ·exact .inl ⟨h1,h2⟩
 exact .inr h
theorem DnW.fset (h:DnW ρ0 w0 nb bl ρ w) {fl:List Fam} (hl:ρ.F=fl) {f j:Nat} {F F':Fam} (hf:fl[f]? =some F) (hj:j<F.N) (hn:F'.N=F.N) (hes:F'.es=F.es) (hT:F'.T=F.T) (hA:∀i,i≠j->F'.A i=F.A i) (hc:∀i,i≠j->F'.cap i=F.cap i) (hg:∀i,i≠j->F'.get i=F.get i) (hw:Wc (F.A j) w w') (hnew:∀b,F'.A j=some b->F.A j=some b∨w.heap.size<=b)
 (hq:(∀b,Zf ρ bl.length w b->Zf ⟨ρ.at',ρ.Z,fl.set f F'⟩ bl.length w' b∧w'.heap[b]? =w.heap[b]?)->Mq (Zf ⟨ρ.at',ρ.Z,fl.set f F'⟩ bl.length w') w' F' j):DnW ρ0 w0 nb bl ⟨ρ.at',ρ.Z,fl.set f F'⟩ w'∧Kp ρ bl.length w ⟨ρ.at',ρ.Z,fl.set f F'⟩ bl.length w':=by
 have hfl:f<fl.length:=bK hf
 have hin:∀b,InL (fl.set f F') b->InF ρ b∨w.heap.size<=b:=λb ⟨G,hG,i,hi,hb⟩=>by
  obtain⟨g,hg'⟩:=List.getElem?_of_mem hG
  rcases jC hg' hfl with ⟨rfl,rfl⟩|⟨hne,h2⟩
  ·by_cases hij:i=j
   ·subst hij
    rcases hnew b hb with h1|h1
    ·exact .inl ⟨F,by rw[hl];exact List.mem_of_getElem? hf,i,by omega,h1⟩
    exact .inr h1
   rw[hA i hij] at hb
   exact .inl ⟨F,by rw[hl];exact List.mem_of_getElem? hf,i,by omega,hb⟩
  exact .inl ⟨G,by rw[hl];exact List.mem_of_getElem? h2,i,hi,hb⟩
 have hjf:∀b,F.A j=some b->InF ρ b:=λb hb=>⟨F,by rw[hl];exact List.mem_of_getElem? hf,j,hj,hb⟩
 have hz:∀b,Zf ρ bl.length w b->Zf ⟨ρ.at',ρ.Z,fl.set f F'⟩ bl.length w' b∧w'.heap[b]? =w.heap[b]?:=λb hb=>by
  refine⟨⟨Nat.lt_of_lt_of_le hb.lt hw.size,hb.no,hb.z,λhi=>?_⟩,hw.block b hb.lt λhe=>hb.nf (hjf b he)⟩
  rcases hin b hi with h1|h1
  ·exact hb.nf h1
  have:=hb.lt;omega
 have kp:Kp ρ bl.length w ⟨ρ.at',ρ.Z,fl.set f F'⟩ bl.length w':=⟨Nat.le_refl _,λ_ _=>rfl,hz⟩
 refine⟨⟨λi T es l hi=>(h.ok i T es l hi).kp kp (bK hi) λb hb=>hw.block b ((h.ok i T es l hi).lt hb) λhe=>h.fam.own i b (bK hi) hb (hjf b he),h.inj,h.fr,h.nbl,?_,h.pl,h.zz,⟨λG hG=>?_,λi b hi hb hf2=>?_,λf1 f2 F1 F2 j1 j2 b h1 h2 h3 h4 h5 h6=>?_⟩,λb hb=>?_⟩,kp⟩
 ·refine⟨hw.os.trans h.rel.os,hw.tape.trans h.rel.tape,hw.output.trans h.rel.output,Nat.le_trans h.rel.size hw.size,λk hk hn hf2=>(hw.block k (Nat.lt_of_lt_of_le hk h.rel.size) λhe=>?_).trans (h.rel.block k hk hn hf2)⟩
  rcases h.ffr k (hjf k he) with h1|h1
  ·omega
  exact hf2 h1
 ·obtain⟨g,hg'⟩:=List.getElem?_of_mem hG
  rcases jC hg' hfl with ⟨rfl,rfl⟩|⟨hne,h2⟩
  ·refine⟨by rw[hes];exact(h.fam.ok F (by rw[hl];exact List.mem_of_getElem? hf)).1,λi hi=>?_⟩
   by_cases hij:i=j
   ·subst hij;exact hq hz
   have h3:=(h.fam.mem hl hf (j:=i) oM).mono hz λb hb=>hw.block b ((h.fam.mem hl hf (j:=i) oM).lt hb) λhe=>by
    have:=(h.fam.inj _ _ F F i j b (by rw[hl];exact hf) (by rw[hl];exact hf) oM hj hb he).2
    exact hij this
   unfold Mq at h3 ⊢
   rw[hA i hij,hc i hij,hg i hij,hes,hT]
   exact h3
  have hG2:G∈ρ.F:=by rw[hl];exact List.mem_of_getElem? h2
  refine⟨(h.fam.ok G hG2).1,λi hi=>((h.fam.ok G hG2).2 i hi).mono hz λb hb=>hw.block b (((h.fam.ok G hG2).2 i hi).lt hb) λhe=>?_⟩
  exact hne (h.fam.inj g f G F i j b (by rw[hl];exact h2) (by rw[hl];exact hf) hi hj hb he).1
 ·rcases hin b hf2 with h1|h1
  ·exact h.fam.own i b hi hb h1
  have:=h.lt hi hb;omega
 ·have hold:∀(g:Nat) (G:Fam) (i:Nat),(fl.set f F')[g]? =some G->i<G.N->G.A i=some b->(∃G0,ρ.F[g]? =some G0∧i<G0.N∧G0.A i=some b)∨(g=f∧i=j∧w.heap.size<=b):=λg G i hg' hi hb=>by
   rcases jC hg' hfl with ⟨rfl,rfl⟩|⟨hne,h2'⟩
   ·by_cases hij:i=j
    ·subst hij
     rcases hnew b hb with h7|h7
     ·exact .inl ⟨F,by rw[hl];exact hf,by omega,h7⟩
     exact .inr ⟨rfl,rfl,h7⟩
    rw[hA i hij] at hb
    exact .inl ⟨F,by rw[hl];exact hf,by omega,hb⟩
   exact .inl ⟨G,by rw[hl];exact h2',hi,hb⟩
  have hlow:∀(g:Nat) (G0:Fam) (i:Nat),ρ.F[g]? =some G0->i<G0.N->G0.A i=some b->b<w.heap.size:=λg G0 i h7 h8 h9=>h.fam.lt ⟨G0,List.mem_of_getElem? h7,i,h8,h9⟩
  rcases hold f1 F1 j1 h1 h3 h5 with ⟨G1,a1,a2,a3⟩|⟨a1,a2,a3⟩<;>rcases hold f2 F2 j2 h2 h4 h6 with ⟨G2,c1,c2,c3⟩|⟨c1,c2,c3⟩
  ·exact h.fam.inj f1 f2 G1 G2 j1 j2 b a1 c1 a2 c2 a3 c3
  ·have:=hlow f1 G1 j1 a1 a2 a3;omega
  ·have:=hlow f2 G2 j2 c1 c2 c3;omega
  exact⟨a1.trans c1.symm,a2.trans c2.symm⟩
 rcases hin b hb with h1|h1
 ·exact h.ffr b h1
 exact .inl (Nat.le_trans h.rel.size h1)
end fset
def aDb (s:SS) (T es:Nat) (l:List CV) (d:Nat->DV) (k:SS->DV->Prop):Prop:=match s with
 |⟨sl,gl,bl,fl⟩=>kB bl (T,es,l) λbl'=>k ⟨sl,gl,bl',fl⟩ (d (cnt bl 0))
def aDc (T:TT) (s:SS) (t:Nat) (k:SS->DV->Prop):Prop:=match T t with
 |some ti=>aDb s t 0 (ti.zero.map jO) (λi=> .c (.p i 0)) k
 |none=>False
def bAq (s:SS) (t:Nat) (x:Operand) (k:SS->DV->Prop):Prop:=match val [] s x with
 |some d=>bif (cellsOf d).all sT&&!isT d then aDb s t 0 (cellsOf d) (λi=> .c (.p i 0)) k else False
 |none=>False
def aDd (T:TT) (s:SS) (t:Nat) (x y:Operand) (k:SS->Prop):Prop:=match T t,val [] s x,val [] s y with
 |some ti,some (.c (.p i o)),some d=>(match s.bl[i]? with
  |some b=>bif Nat.beq (cellsOf d).length ti.size&&((cellsOf d).all sT&&!isT d) then
   (bif Nat.beq b.2.1 0 then aMp o b.2.2 (cellsOf d) λl'=>gR s.bl i (b.1,b.2.1,l') λbl'=>k ⟨s.sl,s.gl,bl',s.fl⟩
   else ∃l',(fG b.2.2 o (cellsOf d)=l'∧o+(cellsOf d).length<=b.2.2.length)∧gR s.bl i (b.1,b.2.1,l') λbl'=>k ⟨s.sl,s.gl,bl',s.fl⟩)
   else False
  |none=>False)
 |some ti,some (.c (.hp b o)),some d=>bif Nat.beq (cellsOf d).length ti.size&&((cellsOf d).all (λc=>sT c&&cW c)&&!isT d) then
  ∃f j:Nat,(match s.fl[f]? with
   |some F=>bif !Nat.ble F.T 999999 then False else ∃l',(j<F.N∧F.A j=some b∧fG (F.get j) o (cellsOf d)=l'∧o+(cellsOf d).length<=(F.get j).length)∧gR s.fl f ⟨F.T,F.es,F.N,F.A,F.cap,upd F.get j l'⟩ λfl'=>k ⟨s.sl,s.gl,s.bl,fl'⟩
   |none=>False) else False
 |_,_,_=>False
def isZ:Operand->Bool
 |.const (.int _ 0)=>true
 |_=>false
def aMs (T:TT) (s:SS) (t:Nat) (x y:Operand) (k:SS->DV->Prop):Prop:=match T t with
 |some ti=>(match ti.el with
  |some e=>(match T e,val [] s x,val [] s y with
   |some te,some (.c (.v (.int _ z))),some (.c (.v (.int _ z')))=>bif isZ x&&!isZ y then ∃n:Nat,(z=0∧z'=n∧te.by'*n<=281474976710656∧n<=maxLen)∧aDb s e te.size [] (λi=> .c (.s i 0)) k else ∃n:Nat,(z=n∧z'=n∧te.by'*n<=281474976710656∧n<=maxLen)∧
    aDb s e te.size (match te.zero with
     |[z0]=>List.replicate n (jO z0)
     |zs=>(List.replicate n (zs.map jO)).flatten) (λi=> .c (.s i n)) k
   |_,_,_=>False)
  |none=>False)
 |none=>False
section ops
variable {P:Program} {T:TT} (hT:Good P T) {w0 w:World} {nb:Nat} {s:SS} {ρ ρ0:Pl} {f:Nat->Value} {dst:Option Tmp} {ty:TypeId} {pos:String} {aft:Array Edge} {gd:Option (Nat×Bool)} {x y z:Operand} {t t':TypeId} {k:SS->DV->Prop} {ks:SS->Prop}
theorem bZ:sat f []:=λp hp=>absurd hp List.not_mem_nil
theorem pZ {T0 es b:Nat} {l:List CV} {vl:List Value} {junk:List Value} {d:Nat->DV} {o:Oper} {v:Value} {w':World} {cap:Nat} (h:aDb s T0 es l d k) (hD:Dn ρ0 w0 nb s ρ f w) (hr:(execOp (ev f) o).run P w= .ok (.value v) w') (hm:Mk w T0 (vl++junk) b w') (hl:Hl ρ s.bl.length w l vl) (h1:∀x∈vl,x.oneCell'=true) (hc:0<es->cap*es=(vl++junk).length∧cap<=maxLen)
 (hd:∀ρ':Pl,ρ' s.bl.length=(some b,cap)->Hd ρ' (s.bl.length+1) w' (d s.bl.length) v):Hv true P f o ρ0 w0 nb w k:=by
 obtain⟨sl,gl,bl,fl⟩:=s
 have hk:=fL (show kB bl (T0,es,l) _ from h)
 rw[nW] at hk
 obtain⟨hb,hbk,he⟩:=hm
 have hp:∀b',((some b,cap):Option Nat×Nat).1=some b'->w.heap.size<=b':=λb' hb'=>by injection hb' with hb';omega
 have kp:Kp ρ bl.length w (mM ρ bl.length (some b,cap)) (bl.length+1) w':=Kp.new hp he
 have hn:(bl++[(T0,es,l)]).length=bl.length+1:=by simp
 refine⟨⟨sl,gl,bl++[(T0,es,l)],fl⟩,d bl.length,mM ρ bl.length (some b,cap),v,w',hk,hr,⟨hD.m.new hp he (Bq.of_some (b:=b) (by rw[eK]) ⟨vl,junk,hbk,hl.kp kp,?_,h1⟩),?_,hD.l⟩,?_⟩
 ·rw[eK];exact hc
 ·exact hD.f.kp rfl rfl (by rw[hn];exact kp)
 refine⟨?_,λ_=>he⟩
 show Hd _ (bl++[(T0,es,l)]).length w' _ v
 rw[hn]
 exact hd _ eK
include hT in
theorem aJm (h:aDc T s t k) (hD:Dn ρ0 w0 nb s ρ f w):Hv true P f ⟨dst,.alloc t,ty,pos,aft,gd⟩ ρ0 w0 nb w k:=by
 unfold aDc at h
 split at h
 ·next ti ht=>
  obtain⟨zz,hty,hz⟩:=(hT t ti ht).ty
  obtain⟨v,w',hr,b,rfl,hm⟩:=cZ (P:=P) (f:=f) (w:=w) (dst:=dst) (ty:=ty) (pos:=pos) (aft:=aft) (g:=gd) hty hz
  refine pZ (junk:=[]) (cap:=0) h hD hr (by rw[List.append_nil];exact hm) (Hl.vs _) ?_ (λh=>absurd h (Nat.lt_irrefl _)) λρ' hρ=> .c ⟨Nat.lt_succ_self _,b,by rw[hρ],rfl⟩
  exact λx hx=>List.all_eq_true.1 (hT t ti ht).z1 x hx
 exact h.elim
theorem aUz (h:bAq s t x k) (hD:Dn ρ0 w0 nb s ρ f w):Hv true P f ⟨dst,.box t x,ty,pos,aft,gd⟩ ρ0 w0 nb w k:=by
 unfold bAq at h
 split at h
 ·next d hx=>
  cases hb:((cellsOf d).all sT&&!isT d) with
  |false=>rw[hb] at h;exact h.elim
  |true=>
   rw[hb] at h
   simp only[Bool.and_eq_true,Bool.not_eq_true'] at hb
   obtain⟨us,h1,h2,h3⟩:=pY (aK hD.f bZ hx) hb.1 hb.2
   obtain⟨v,w',hr,b,rfl,hm⟩:=fZ (P:=P) (w:=w) (dst:=dst) (ty:=ty) (pos:=pos) (aft:=aft) (g:=gd) (t:=t) rfl h1
   simp only[cond_true] at h
   exact pZ (junk:=[]) (cap:=0) h hD hr (by rw[List.append_nil];exact hm) h2 h3 (λh=>absurd h (Nat.lt_irrefl _)) λρ' hρ=> .c ⟨Nat.lt_succ_self _,b,by rw[hρ],rfl⟩
 exact h.elim
theorem aAz {T0:TypeId} {b o:Nat} {l junk:List Value} {vv:Value} {cs:List Value} {size bytes:Nat} {zz:Value} (ht:TyI P t size bytes zz) (hx:ev f x= .pointer (some ⟨b,o,none⟩)) (hy:ev f y=vv) (hc:vv.cells=cs.toArray) (hs:cs.length=size)
 (h1:∀u∈cs,u.oneCell'=true) (hb:w.heap[b]? =some (.cells (l++junk).toArray T0 (0,0))) (hfit:o+cs.length<=l.length):
 ∃w',(execOp (ev f) ⟨dst,.store t x y,ty,pos,aft,gd⟩).run P w= .ok .skip w'∧w'.heap[b]? =some (.cells (spl l o cs++junk).toArray T0 (0,0))∧Exc b w w':=by
 obtain⟨w',hr,hn,he,_⟩:=bQ (P:=P) (dst:=dst) (ty:=ty) (pos:=pos) (aft:=aft) (g:=gd) ht hx hy hc hs h1 (l:=l++junk) hb (by simp only[List.length_append];omega)
 refine⟨w',hr,?_,he⟩
 have e:spl (l++junk) o cs=spl l o cs++junk:=by
  unfold spl
  rw[List.take_append_of_le_length oM,List.drop_append_of_le_length oM]
  simp
 unfold Bk at hn
 rw[e] at hn
 exact hn
include hT in
theorem aJn (h:aDd T s t x y ks) (hD:Dn ρ0 w0 nb s ρ f w):Hs P f ⟨dst,.store t x y,ty,pos,aft,gd⟩ ρ0 w0 nb w ks:=by
 unfold aDd at h
 split at h
 ·next ti i o d ht hx hy=>
  split at h
  ·next bb hbb=>
   obtain⟨T0,es,l⟩:=bb
   cases hb:(Nat.beq (cellsOf d).length ti.size&&((cellsOf d).all sT&&!isT d)) with
   |false=>rw[hb] at h;exact h.elim
   |true=>
    rw[hb] at h
    simp only[Bool.and_eq_true,Bool.not_eq_true'] at hb
    obtain⟨b1,b2,b3⟩:=hb
    have b1':=Nat.eq_of_beq_eq_true b1
    have key:o+(cellsOf d).length<=l.length∧ks ⟨s.sl,s.gl,s.bl.set i (T0,es,fG l o (cellsOf d)),s.fl⟩:=by
     simp only[cond_true] at h
     cases hz:Nat.beq es 0 with
     |true=>
      rw[hz] at h
      obtain⟨h1,h2⟩:=xV (show aMp o l (cellsOf d) _ from h)
      exact⟨h1,dZ h2⟩
     |false=>
      rw[hz] at h
      obtain⟨l',⟨h1,h2⟩,h3⟩:=h
      subst h1
      exact⟨h2,dZ h3⟩
    obtain⟨hi,b,hρ,he⟩:=(aK hD.f bZ hx).inv_c
    obtain⟨us,u1,u2,u3⟩:=pY (aK hD.f bZ hy) b2 b3
    have hq:=hD.m.ok i T0 es l hbb
    obtain⟨vl,junk,hh,hl,hcap,hone⟩:=hq.at hρ
    obtain⟨zz,hty,_⟩:=(hT t ti ht).ty
    have hul:us.length=(cellsOf d).length:=u2.len.symm
    have hvl:vl.length=l.length:=hl.len.symm
    obtain⟨w',hr,hn,hex⟩:=aAz (P:=P) (dst:=dst) (ty:=ty) (pos:=pos) (aft:=aft) (gd:=gd) hty he rfl u1 (by rw[hul];exact b1') u3 hh (by rw[hul,hvl];exact key.1)
    have kp:Kp ρ s.bl.length w ρ s.bl.length w':=Kp.exc hi hρ hex
    refine⟨_,ρ,w',key.2,hr,⟨hD.m.exc hbb hρ hex (Bq.of_some hρ ⟨spl vl o us,junk,hn,(xW o hl u2).kp kp,λh0=>?_,λx hx=>?_⟩),hD.f.kp rfl rfl (by simp only[List.length_set];exact kp),hD.l⟩⟩
    ·obtain⟨c1,c2⟩:=hcap h0
     refine⟨c1.trans ?_,c2⟩
     have:=key.1
     simp only[List.length_append,spl,List.length_take,List.length_drop]
     omega
    simp only[spl,List.mem_append] at hx
    rcases hx with (hx|hx)|hx
    ·exact hone x (List.mem_of_mem_take hx)
    ·exact u3 x hx
    exact hone x (List.mem_of_mem_drop hx)
  exact h.elim
 ·next ti b o d ht hx hy=>
  cases hb:(Nat.beq (cellsOf d).length ti.size&&((cellsOf d).all (λc=>sT c&&cW c)&&!isT d)) with
  |false=>rw[hb] at h;exact h.elim
  |true=>
   rw[hb] at h
   simp only[Bool.and_eq_true,Bool.not_eq_true'] at hb
   obtain⟨b1,b2,b3⟩:=hb
   have b1':=Nat.eq_of_beq_eq_true b1
   have b2o:(cellsOf d).all sT=true:=List.all_eq_true.2 λc hc=>by
    have:=List.all_eq_true.1 b2 c hc
    simp only[Bool.and_eq_true] at this
    exact this.1
   have b2c:∀c∈cellsOf d,cW c=true:=λc hc=>by
    have:=List.all_eq_true.1 b2 c hc
    simp only[Bool.and_eq_true] at this
    exact this.2
   obtain⟨ff,j,h⟩:=(show ∃f j:Nat,_ from h)
   split at h
   ·next F hF=>
    cases hft:Nat.ble F.T 999999 with
    |false=>rw[hft] at h;exact h.elim
    |true=>
    rw[hft] at h
    obtain⟨l',⟨hj,hA,hl',hfit⟩,hk⟩:=h
    subst hl'
    have hk':=dZ hk
    have he:=(aK hD.f bZ hx).inv_c.inv_hp
    obtain⟨us,u1,u2,u3⟩:=pY (aK hD.f bZ hy) b2o b3
    have hmq:=hD.m.fam.mem hD.l hF hj
    obtain⟨vl,junk,hh,hlen,hcl,hcap,hmx,hone⟩:=hmq.at hA hft
    obtain⟨zz,hty,_⟩:=(hT t ti ht).ty
    have hul:us.length=(cellsOf d).length:=u2.len.symm
    obtain⟨w',hr,hn,hex⟩:=aAz (P:=P) (dst:=dst) (ty:=ty) (pos:=pos) (aft:=aft) (gd:=gd) hty he rfl u1 (by rw[hul];exact b1') u3 hh (by rw[hul,hlen];exact hfit)
    obtain⟨k1,k2⟩:=hD.m.fset hD.l hF hj (F':=⟨F.T,F.es,F.N,F.A,F.cap,upd F.get j (fG (F.get j) o (cellsOf d))⟩) rfl rfl rfl (λ_ _=>rfl) (λ_ _=>rfl) (λi hi=>aP hi) (w':=w') ⟨hex.os,hex.tape,hex.output,hex.size,λb' hb' hne=>hex.block b' hb' λe=>hne (by rw[e];exact hA)⟩ (λb' hb'=> .inl hb') (λhz=>by
     unfold Mq
     simp only[hA,aT,hft,cond_true]
     have hl1:Hl ρ s.bl.length w (F.get j) vl:=Hl.of_get hlen λi c x hc hx=>Hc.of_rc (hcl i c x hc hx)
     have hl2:=xW o hl1 u2
     refine⟨spl vl o us,junk,hn,hl2.len.symm,λi c x hc hx=>?_,?_,hmx,λx hx=>?_⟩
     ·refine Rc.mono ?_ hz
      obtain⟨x',h1,h2⟩:=hl2.get hc
      rw[hx] at h1
      injection h1 with h1
      subst h1
      have hcc:cW c=true∨∃i':Nat,(F.get j)[i']? =some c:=by
       have hm:=List.mem_of_getElem? hc
       simp only[fG,List.mem_append] at hm
       rcases hm with hm|hm|hm
       ·exact .inr (List.getElem?_of_mem (List.mem_of_mem_take hm))
       ·exact .inl (b2c c hm)
       exact .inr (List.getElem?_of_mem (List.mem_of_mem_drop hm))
      have hc2:cW c=true:=by
       rcases hcc with h|⟨i',hi'⟩
       ·exact h
       have hlt:=bK hi'
       obtain⟨x2,hx2⟩:∃x2,vl[i']? =some x2:=⟨_,List.getElem?_eq_getElem (by rw[hlen];exact hlt)⟩
       have:=hcl i' c x2 hi' hx2
       cases this<;>rfl
      cases c with
      |u=>exact h2
      |v y=>exact h2
      |h A n c=>exact h2
      |hp b o=>exact h2
      |b p q=>exact h2
      |r A m c e get=>exact h2
      |p i o=>cases hc2
      |s i m=>cases hc2
      |q A m c e get j o=>cases hc2
      |t i o m=>cases hc2
      |f k fi ca=>cases hc2
     ·refine hcap.trans ?_
      simp only[List.length_append,spl,List.length_take,List.length_drop]
      omega
     simp only[spl,List.mem_append] at hx
     rcases hx with (hx|hx)|hx
     ·exact hone x (List.mem_of_mem_take hx)
     ·exact u3 x hx
     exact hone x (List.mem_of_mem_drop hx))
    exact⟨_,_,w',hk',hr,⟨k1,hD.f.kp rfl rfl k2,rfl⟩⟩
   exact h.elim
 exact h.elim
theorem Hl.rep {ρ:Pl} {n:Nat} {w:World} {l:List CV} {vl:List Value} (h:Hl ρ n w l vl) (m:Nat):Hl ρ n w (List.replicate m l).flatten (List.replicate m vl).flatten:=by
 induction m with
 |zero=>trivial
 |succ m ih=>rw[List.replicate_succ,List.replicate_succ,List.flatten_cons,List.flatten_cons];exact h.append ih
theorem uO {α:Type} (m:Nat) (l:List α):(List.replicate m l).flatten.length=m*l.length:=by
 induction m with
 |zero=>simp
 |succ m ih=>rw[List.replicate_succ,List.flatten_cons,List.length_append,ih,Nat.add_mul,Nat.one_mul,Nat.add_comm]
theorem aMt {α:Type} (m:Nat) (a:α):(List.replicate m [a]).flatten=List.replicate m a:=by
 induction m with
 |zero=>rfl
 |succ m ih=>rw[List.replicate_succ,List.flatten_cons,ih];rfl
include hT in
theorem aMu (h:aMs T s t x y k) (hD:Dn ρ0 w0 nb s ρ f w):Hv true P f ⟨dst,.makeSlice t x y,ty,pos,aft,gd⟩ ρ0 w0 nb w k:=by
 unfold aMs at h
 split at h
 ·next ti ht=>
  split at h
  ·next e he=>
   split at h
   ·next te kx zx ky zy hte hx hy=>
    have G:=hT e te hte
    cases hz0:(isZ x&&!isZ y) with
    |true=>
     rw[hz0] at h
     obtain⟨n,⟨h1,h2,h3,h4⟩,h⟩:=h
     subst h1 h2
     obtain⟨zz,hty,hz⟩:=G.ty
     have hzl:zz.cells.size=te.size:=by rw[hz];simpa using G.zs
     obtain⟨v,w',hr,b,rfl,hm⟩:=aKk (P:=P) (f:=f) (w:=w) (dst:=dst) (ty:=ty) (pos:=pos) (aft:=aft) (g:=gd) (n:=0) (c:=n) ((hT t ti ht).el e he) hty hzl (aK hD.f bZ hx).inv_c.inv_v (aK hD.f bZ hy).inv_c.inv_v (Nat.zero_le _) h3 (by simpa[maxLen] using h4)
     rw[hz] at hm
     exact pZ (vl:=[]) (junk:=(List.replicate n te.zero).flatten) (cap:=n) h hD hr hm trivial (λx hx=>absurd hx List.not_mem_nil) (λ_=>⟨by rw[List.nil_append,uO,G.zs],h4⟩) λρ' hρ=> .c ⟨Nat.lt_succ_self _,by rw[hρ];rfl⟩
    |false=>
    rw[hz0] at h
    obtain⟨n,⟨h1,h2,h3,h4⟩,h⟩:=h
    subst h1 h2
    obtain⟨zz,hty,hz⟩:=G.ty
    have hzl:zz.cells.size=te.size:=by rw[hz];simpa using G.zs
    obtain⟨v,w',hr,b,rfl,hm⟩:=aKk (P:=P) (f:=f) (w:=w) (dst:=dst) (ty:=ty) (pos:=pos) (aft:=aft) (g:=gd) (n:=n) (c:=n) ((hT t ti ht).el e he) hty hzl (aK hD.f bZ hx).inv_c.inv_v (aK hD.f bZ hy).inv_c.inv_v (Nat.le_refl _) h3 (by simp only[maxLen] at h4;omega)
    rw[hz] at hm
    have hl:(List.replicate n (te.zero.map jO)).flatten=(match te.zero with|[z0]=>List.replicate n (jO z0)|zs=>(List.replicate n (zs.map jO)).flatten):=by
     split
     ·next z0 hz0=>rw[hz0];exact aMt n _
     rfl
    rw[<-hl] at h
    refine pZ (junk:=[]) (cap:=n) (vl:=(List.replicate n te.zero).flatten) h hD hr (by rw[List.append_nil];exact hm) ((Hl.vs te.zero).rep n) (λx hx=>?_) (λ_=>⟨?_,h4⟩) λρ' hρ=> .c ⟨Nat.lt_succ_self _,by rw[hρ];rfl⟩
    ·obtain⟨l,hl1,hl2⟩:=List.mem_flatten.1 hx
     rw[(List.mem_replicate.1 hl1).2] at hl2
     exact List.all_eq_true.1 G.z1 x hl2
    rw[List.append_nil,uO,G.zs]
   exact h.elim
  exact h.elim
 exact h.elim
end ops
/-! ### literals -/
def wZ (place:Nat->Option (Nat×Nat)):List CV->List (Nat×DV)->(List CV->Prop)->Prop
 |cells,[],k=>k cells
 |cells,(i,d)::rest,k=>match place i with
  |some os=>bif Nat.beq (cellsOf d).length os.2&&((cellsOf d).all sT&&!isT d) then aMp os.1 cells (cellsOf d) λcs=>wZ place cs rest k else False
  |none=>False
def aDe (gs:Gs) (s:SS):List (Nat×Operand)->(List (Nat×DV)->Prop)->Prop
 |[],k=>k []
 |(i,x)::l,k=>match val gs s x with
  |some (.c (.v (.bool b)))=>aDe gs s l λr=>k ((i,.c (.b (b=true) inferInstance))::r)
  |some d=>aDe gs s l λr=>k ((i,d)::r)
  |none=>False
def plK:List FI->List (Nat×Nat)
 |[]=>[]
 |fi::l=>(fi.off,fi.size)::plK l
def aDf (T:TT) (gs:Gs) (s:SS) (t:Nat) (al:List (Nat×Operand)) (k:DV->Prop):Prop:=match T t with
 |some ti=>(match ti.ar with
  |some (_,_,es)=>aDe gs s al λdl=>wZ (λi=>some (i*es,es)) (ti.zero.map jO) dl λcs=>k (.a cs)
  |none=>bif ti.fs.isEmpty then False else aDe gs s al λdl=>wZ ((plK ti.fs)[·]?) (ti.zero.map jO) dl λcs=>k (.a cs))
 |none=>False
def bAr (T:TT) (s:SS) (t n:Nat) (al:List (Nat×Operand)) (k:SS->DV->Prop):Prop:=match T t with
 |some ti=>(match ti.el with
  |some e=>(match T e with
   |some te=>bif Nat.ble (n*te.size) 16777216&&Nat.ble 1 te.size then aDe [] s al λdl=>wZ (λi=>some (i*te.size,te.size)) (List.replicate n (te.zero.map jO)).flatten dl λcs=>aDb s e te.size cs (λi=> .c (.s i n)) k else False
   |none=>False)
  |none=>False)
 |none=>False
theorem aMv (vs:List Value):∀(off k:Nat) (cells:List Value),off+k+vs.length<=cells.length->
 (vs.zipIdx k).foldl (λ(cs:Array Value) (x:Value×Nat)=>match x with|(c,j)=>cs.setIfInBounds (off+j) c) cells.toArray=(cells.take (off+k)++(vs++cells.drop (off+k+vs.length))).toArray:=by
 induction vs with
 |nil=>intro off k cells _;simp
 |cons v vs ih=>
  intro off k cells h
  simp only[List.length_cons] at h
  rw[List.zipIdx_cons,List.foldl_cons]
  simp only[List.setIfInBounds_toArray]
  rw[ih off (k+1) (cells.set (off+k) v) (by simp only[List.length_set];omega)]
  congr 1
  have h1:(cells.set (off+k) v).take (off+(k+1))=cells.take (off+k)++[v]:=by
   rw[show off+(k+1)=(off+k)+1 by omega,List.take_add_one,List.getElem?_set_self oM,List.take_set,List.set_eq_of_length_le (by simp only[List.length_take];omega)]
   rfl
  have h2:(cells.set (off+k) v).drop (off+(k+1)+vs.length)=cells.drop (off+k+(vs.length+1)):=by
   rw[List.drop_set_of_lt oM]
   congr 1
   omega
  rw[h1,h2]
  simp
def Hp (ρ:Pl) (n:Nat) (w:World):List (Nat×DV)->List (Nat×Value)->Prop
 |[],[]=>True
 |p::l,q::m=>(p.1=q.1∧Hd ρ n w p.2 q.2)∧Hp ρ n w l m
 |_,_=>False
theorem qA {place:Nat->Option (Nat×Nat)}:∀{al:List (Nat×DV)} {cells:List CV} {k:List CV->Prop},wZ place cells al k->
 ∃cs,k cs∧cs.length=cells.length∧∀(ρ:Pl) (n:Nat) (w:World) (vc:List Value) (vl:List (Nat×Value)),Hl ρ n w cells vc->Hp ρ n w al vl->(∀x∈vc,x.oneCell'=true)->∃vs,Instr.fill place vc.toArray vl=some vs.toArray∧Hl ρ n w cs vs∧∀x∈vs,x.oneCell'=true
 |[],cells,k,h=>⟨cells,h,rfl,λρ n w vc vl hc hp h1=>by
    cases vl with
    |nil=>exact⟨vc,rfl,hc,h1⟩
    |cons q m=>exact hp.elim⟩
 |(i,d)::rest,cells,k,h=>by
  unfold wZ at h
  split at h
  ·next os hos=>
   obtain⟨off,size⟩:=os
   cases hb:(Nat.beq (cellsOf d).length size&&((cellsOf d).all sT&&!isT d)) with
   |false=>simp only[hb,cond_false] at h
   |true=>
    simp only[hb,cond_true] at h
    simp only[Bool.and_eq_true,Bool.not_eq_true'] at hb
    obtain⟨b1,b2,b3⟩:=hb
    have b1':=Nat.eq_of_beq_eq_true b1
    obtain⟨h1,h2⟩:=xV h
    obtain⟨cs,h3,h4,h5⟩:=qA h2
    refine⟨cs,h3,h4.trans ?_,λρ n w vc vl hc hp hone=>?_⟩
    ·simp only[fG,List.length_append,List.length_take,List.length_drop];omega
    cases vl with
    |nil=>exact hp.elim
    |cons q m=>
     obtain⟨⟨e1,hd⟩,hp⟩:=hp
     obtain⟨i',x⟩:=q
     simp only at e1 hd
     subst e1
     obtain⟨us,u1,u2,u3⟩:=pY hd b2 b3
     have hul:us.length=size:=u2.len.symm.trans b1'
     have hvl:vc.length=cells.length:=hc.len.symm
     have hsp:=xW off hc u2
     obtain⟨vs,hv1,hv2,hv3⟩:=h5 ρ n w (spl vc off us) m hsp hp (λx hx=>by
      simp only[spl,List.mem_append] at hx
      rcases hx with (hx|hx)|hx
      ·exact hone x (List.mem_of_mem_take hx)
      ·exact u3 x hx
      exact hone x (List.mem_of_mem_drop hx))
     refine⟨vs,?_,hv2,hv3⟩
     have hz:(us.toArray.zipIdx).foldl (λ(cs:Array Value) (x:Value×Nat)=>match x with|(c,j)=>cs.setIfInBounds (off+j) c) vc.toArray=(vc.take off++(us++vc.drop (off+us.length))).toArray:=by
      rw[<-Array.foldl_toList,Array.toList_zipIdx]
      exact aMv us off 0 vc oM
     simp only[Instr.fill,hos,u1]
     rw[if_neg (by simp only[List.size_toArray,bne_iff_ne,ne_eq,Bool.or_eq_true,decide_eq_true_eq,not_or,Decidable.not_not];exact⟨hul,by omega⟩)]
     rw[<-hv1,hz]
     simp[spl]
  exact h.elim
theorem qB {s:SS} {ρ:Pl} {w:World} {f:Nat->Value} {gs:Gs} (hF:Fr s ρ w f):∀{al:List (Nat×Operand)} {k:List (Nat×DV)->Prop},aDe gs s al k->∃dl,k dl∧(sat f gs->Hp ρ s.bl.length w dl (al.map λp=>(p.1,ev f p.2)))
 |[],k,h=>⟨[],h,λ_=>trivial⟩
 |(i,x)::al,k,h=>by
  unfold aDe at h
  split at h
  ·next b hd=>
   obtain⟨dl,h1,h2⟩:=qB hF h
   exact⟨_,h1,λhs=>⟨⟨rfl,by
    show Hd ρ s.bl.length w _ (ev f x)
    rw[(aK hF hs hd).inv_c.inv_v];exact .c (aAv (.bool b))⟩,h2 hs⟩⟩
  ·next d hd=>
   obtain⟨dl,h1,h2⟩:=qB hF h
   exact⟨_,h1,λhs=>⟨⟨rfl,aK hF hs hd⟩,h2 hs⟩⟩
  exact h.elim
section ops
variable {P:Program} {T:TT} (hT:Good P T) {w0 w:World} {nb:Nat} {s:SS} {ρ ρ0:Pl} {f:Nat->Value} {gs:Gs} {dst:Option Tmp} {ty:TypeId} {pos:String} {aft:Array Edge} {gd:Option (Nat×Bool)} {x y z:Operand} {t t':TypeId} {k:SS->DV->Prop} {ke:DV->Prop}
theorem aDg {F:Array Field} {l:List FI} (hl:l.length=F.size) (h:∀(i:Nat) (fi:FI),l[i]? =some fi->∃fl,F[i]? =some fl∧fl.offset=fi.off∧fl.type=fi.ty∧∃by' z,TyI P fi.ty fi.size by' z) (u:World):
 (F.mapM λ(fl:Field)=>(do pure (fl.offset,<-sizeOf fl.type):Sem (Nat×Nat))).run P u= .ok (plK l).toArray u:=by
 obtain⟨F⟩:=F
 simp only[List.size_toArray] at hl
 rw[List.mapM_toArray]
 have key:∀(F:List Field) (l:List FI),l.length=F.length->(∀(i:Nat) (fi:FI),l[i]? =some fi->∃fl,F[i]? =some fl∧fl.offset=fi.off∧fl.type=fi.ty∧∃by' z,TyI P fi.ty fi.size by' z)->
  (F.mapM λ(fl:Field)=>(do pure (fl.offset,<-sizeOf fl.type):Sem (Nat×Nat))).run P u= .ok (plK l) u:=by
  intro F
  induction F with
  |nil=>intro l hl _;cases l with
   |nil=>simp[plK]
   |cons a l=>cases hl
  |cons fl F ih=>intro l hl h;cases l with
   |nil=>cases hl
   |cons fi l=>
    obtain⟨fl',h1,h2,h3,by',z,h4⟩:=h 0 fi rfl
    injection h1 with h1
    subst h1
    obtain⟨ii,hi,_,hs,_⟩:=h4.ex
    have:=ih l (by simpa using hl) λi fi hi=>by simpa using h (i+1) fi hi
    rw[List.mapM_cons]
    have e1:(do pure (fl.offset,<-sizeOf fl.type):Sem (Nat×Nat)).run P u= .ok (fi.off,fi.size) u:=by simp[sizeOf,typeInfo,h3,hi,hs,h2]
    rw[Sem.run_bind,e1,Result.andThen_ok,Sem.run_bind,this,Result.andThen_ok]
    rfl
 have:=key F l hl (λi fi hi=>by simpa using h i fi hi)
 simp only[Sem.run_map,this]
 rfl
include hT in
theorem aJo {al:List (Nat×Operand)} (h:aDf T gs s t al ke) (hF:Fr s ρ w f):Pu P f ⟨dst,.build t al.toArray,ty,pos,aft,gd⟩ w ρ s.bl.length gs ke:=by
 unfold aDf at h
 split at h
 ·next ti ht=>
  have G:=hT t ti ht
  split at h
  ·next n e es har=>
   obtain⟨hu,by',z0,hte⟩:=G.ar n e es har
   obtain⟨dl,h1,h2⟩:=qB hF h
   obtain⟨cs,h3,_,h5⟩:=qA h1
   refine⟨_,h3,λhs=>?_⟩
   obtain⟨zz,hty,hz⟩:=G.ty
   obtain⟨vs,hv1,hv2,_⟩:=h5 ρ s.bl.length w ti.zero _ (Hl.vs _) (h2 hs) (λx hx=>List.all_eq_true.1 G.z1 x hx)
   refine⟨_,.a hv2,λu _=>?_⟩
   obtain⟨i0,hi0,hzi,hs0,_⟩:=hty.ex
   obtain⟨i1,hi1,_,hs1,_⟩:=hte.ex
   have hzv:(zeroValue t).run P u= .ok zz u:=by simp[zeroValue,typeInfo,hi0,hzi]
   rw[hz.symm] at hv1
   simp only[execOp,Instr.build,Sem.run_bind,hzv,Result.andThen_ok,run_underlying hu,sizeOf,typeInfo,hi1,List.map_toArray]
   simp[hi1,hs1,hv1]
  cases hfe:ti.fs.isEmpty with
  |true=>rw[hfe] at h;exact h.elim
  |false=>
   rw[hfe] at h
   simp only[cond_false] at h
   rcases G.fs with h0|⟨F,hFF,hsz,hh⟩
   ·rw[h0] at hfe;cases hfe
   obtain⟨dl,h1,h2⟩:=qB hF h
   obtain⟨cs,h3,_,h5⟩:=qA h1
   refine⟨_,h3,λhs=>?_⟩
   obtain⟨zz,hty,hz⟩:=G.ty
   obtain⟨vs,hv1,hv2,_⟩:=h5 ρ s.bl.length w ti.zero _ (Hl.vs _) (h2 hs) (λx hx=>List.all_eq_true.1 G.z1 x hx)
   refine⟨_,.a hv2,λu _=>?_⟩
   refine eR hFF hty rfl (λu=>aDg hsz (λi fi hi=>?_) u) ?_
   ·obtain⟨fl,a1,a2,a3,_,_,a4⟩:=hh i fi hi
    exact⟨fl,a1,a2,a3,a4⟩
   rw[hz,<-hv1]
   congr 1
   funext i
   simp
 exact h.elim
include hT in
theorem aVa {n:Nat} {al:List (Nat×Operand)} (h:bAr T s t n al k) (hD:Dn ρ0 w0 nb s ρ f w):Hv true P f ⟨dst,.buildSlice t n al.toArray,ty,pos,aft,gd⟩ ρ0 w0 nb w k:=by
 unfold bAr at h
 split at h
 ·next ti ht=>
  split at h
  ·next e he=>
   split at h
   ·next te hte=>
    cases hb:(Nat.ble (n*te.size) 16777216&&Nat.ble 1 te.size) with
    |false=>rw[hb] at h;exact h.elim
    |true=>
     simp only[hb,cond_true] at h
     simp only[Bool.and_eq_true] at hb
     have b1:=Nat.le_of_ble_eq_true hb.1
     have b2:=Nat.le_of_ble_eq_true hb.2
     have G:=hT e te hte
     obtain⟨zz,hty,hz⟩:=G.ty
     obtain⟨dl,h1,h2⟩:=qB hD.f h
     obtain⟨cs,h3,h4,h5⟩:=qA h1
     obtain⟨vs,hv1,hv2,hv3⟩:=h5 ρ s.bl.length w (List.replicate n te.zero).flatten _ ((Hl.vs te.zero).rep n) (h2 bZ) (λx hx=>by
      obtain⟨l,hl1,hl2⟩:=List.mem_flatten.1 hx
      rw[(List.mem_replicate.1 hl1).2] at hl2
      exact List.all_eq_true.1 G.z1 x hl2)
     have hzs:zz.cells.size=te.size:=by rw[hz];simpa using G.zs
     have hlen:vs.length=n*te.size:=by
      rw[<-hv2.len,h4,uO,List.length_map,G.zs]
     have hmk:((Array.range (n*te.size)).map ((if n*te.size=0 then #[] else zz.cells)[·%(if n*te.size=0 then #[] else zz.cells).size]!))=(List.replicate n te.zero).flatten.toArray:=by
      have hm:=wO zz.cells n
      rw[hzs,hz] at hm
      by_cases h0:n*te.size=0
      ·have hn:n=0:=by
        rcases Nat.eq_zero_or_pos n with h|h
        ·exact h
        have:=Nat.mul_pos h b2;omega
       subst hn
       simp
      simp only[h0,if_false]
      rw[<-hm,hz,Array.toArray_toList]
      rfl
     obtain⟨v,w',hr,b,rfl,hm⟩:=aAg (P:=P) (f:=f) (w:=w) (dst:=dst) (ty:=ty) (pos:=pos) (aft:=aft) (g:=gd) (len:=n) ((hT t ti ht).el e he) hty rfl b1 (by rw[hmk];exact hv1)
     refine pZ (junk:=[]) (cap:=n) h3 hD hr (by rw[List.append_nil];exact hm) hv2 hv3 (λ_=>⟨by rw[List.append_nil];exact hlen.symm,?_⟩) λρ' hρ=> .c ⟨Nat.lt_succ_self _,by rw[hρ];rfl⟩
     have:n*1<=n*te.size:=Nat.mul_le_mul_left n b2
     simp only[maxLen]
     omega
   exact h.elim
  exact h.elim
 exact h.elim
end ops
/-! ### what names block i is no longer known -/
def eX (i:Nat):CV->Bool
 |.p j _=>Nat.beq j i
 |.s j _=>Nat.beq j i
 |.t j _ _=>Nat.beq j i
 |.f _ fi ca=>(fi++ca).any λp=>Nat.beq p.1 i
 |_=>false
def bGz (i:Nat):DV->Bool
 |.c c=>eX i c
 |.a l=>l.any (eX i)
 |.t _=>true
def aBa (i:Nat):DV->Bool
 |.c c=>eX i c
 |.a l=>l.any (eX i)
 |.t l=>l.any (bGz i)
def aBb (i:Nat) (c:CV):CV:=bif eX i c then .u else c
def aVb (i:Nat):List CV->(List CV->Prop)->Prop
 |[],k=>k []
 |c::l,k=>aVb i l λr=>k (aBb i c::r)
def aBc (i:Nat):List (Nat×DV)->(List (Nat×DV)->Prop)->Prop
 |[],k=>k []
 |(t,d)::l,k=>bif aBa i d then aBc i l λr=>k ((t,.c .u)::r) else aBc i l λr=>k ((t,d)::r)
def aDh (i:Nat):Nat->List (TypeId×Nat×List CV)->(List (TypeId×Nat×List CV)->Prop)->Prop
 |_,[],k=>k []
 |j,(T,es,l)::r,k=>bif Nat.beq j i then aDh i (j+1) r λr'=>k ((T,es,l)::r') else
  bif Nat.beq es 0 then aVb i l λl'=>aDh i (j+1) r λr'=>k ((T,es,l')::r')
  else (∀c∈l,eX i c=false)∧aDh i (j+1) r λr'=>k ((T,es,l)::r')
def oR (i:Nat) (s:SS) (k:SS->Prop):Prop:=match s with
 |⟨sl,gl,bl,fl⟩=>bif gl.isEmpty then aBc i sl λsl'=>aDh i 0 bl λbl'=>k ⟨sl',[],bl',fl⟩ else False
structure Kx (i:Nat) (ρ:Pl) (n:Nat) (w:World) (ρ':Pl) (w':World):Prop where
 pl:∀j,j<n->j≠i->ρ' j=ρ j
 z:∀b,Zf ρ n w b->Zf ρ' n w' b∧w'.heap[b]? =w.heap[b]?
 ob:∀j b,j<n->j≠i->(ρ j).1=some b->w'.heap[b]? =w.heap[b]?
section kx
variable {i n:Nat} {ρ ρ' ρ0:Pl} {w w' w0:World} {nb:Nat} {f:Nat->Value} {s:SS}
theorem fQ {a b:Nat} (h:Nat.beq a b=false):a≠b:=λe=>by subst e;rw[Nat.beq_refl] at h;cases h
theorem Hc.kx {c:CV} {x:Value} (h:Hc ρ n w c x) (k:Kx i ρ n w ρ' w') (hm:eX i c=false):Hc ρ' n w' c x:=by
 cases c with
 |p j o=>obtain⟨h1,b,h2,h3⟩:=h;exact⟨h1,b,by rw[k.pl j h1 (fQ hm)];exact h2,h3⟩
 |s j m=>obtain⟨h1,h2⟩:=h;exact⟨h1,by rw[k.pl j h1 (fQ hm)];exact h2⟩
 |q A m c esz get j o=>obtain⟨h1,h2⟩:=h;exact⟨h1.mono k.z,h2⟩
 |t j o m=>obtain⟨h1,h2⟩:=h;exact⟨h1,by rw[k.pl j h1 (fQ hm)];exact h2⟩
 |f q fi ca=>
  obtain⟨h1,h2⟩:=h
  have hne:∀p∈fi++ca,p.1≠i:=λp hp he=>by
   have:=List.any_eq_false.1 hm p hp
   rw[he,Nat.beq_refl] at this
   exact this rfl
  refine⟨λp hp=>⟨(h1 p hp).1,by rw[k.pl p.1 (h1 p hp).1 (hne p hp)];exact(h1 p hp).2⟩,h2.trans ?_⟩
  have e:∀p∈fi++ca,ptr ρ p=ptr ρ' p:=λp hp=>by
   unfold ptr
   rw[k.pl p.1 (h1 p hp).1 (hne p hp)]
  rw[List.map_congr_left λp hp=>e p (List.mem_append_left _ hp),List.map_congr_left λp hp=>e p (List.mem_append_right _ hp)]
 |u=>exact Rc.mono h k.z
 |v x=>exact Rc.mono h k.z
 |h A n c=>exact Rc.mono h k.z
 |hp b o=>exact Rc.mono h k.z
 |b p q=>exact Rc.mono h k.z
 |r A m c esz get=>exact Rc.mono h k.z
theorem Hc.kill {c:CV} {x:Value} (h:Hc ρ n w c x) (k:Kx i ρ n w ρ' w'):Hc ρ' n w' (aBb i c) x:=by
 unfold aBb
 cases hm:eX i c with
 |true=>exact Rc.u x
 |false=>exact h.kx k hm
theorem Hl.kx {l:List CV} {vl:List Value} (h:Hl ρ n w l vl) (k:Kx i ρ n w ρ' w') (hm:∀c∈l,eX i c=false):Hl ρ' n w' l vl:=by
 induction l generalizing vl with
 |nil=>cases vl with
  |nil=>trivial
  |cons x vl=>exact h
 |cons c l ih=>cases vl with
  |nil=>exact h
  |cons x vl=>exact⟨h.1.kx k (hm c (.head _)),ih h.2 λc hc=>hm c (.tail _ hc)⟩
theorem Hl.kill {l:List CV} {vl:List Value} (h:Hl ρ n w l vl) (k:Kx i ρ n w ρ' w'):Hl ρ' n w' (l.map (aBb i)) vl:=by
 induction l generalizing vl with
 |nil=>cases vl with
  |nil=>trivial
  |cons x vl=>exact h
 |cons c l ih=>cases vl with
  |nil=>exact h
  |cons x vl=>exact⟨h.1.kill k,ih h.2⟩
theorem Hd.kx {d:DV} {x:Value} (h:Hd ρ n w d x) (k:Kx i ρ n w ρ' w') (hm:aBa i d=false):Hd ρ' n w' d x:=by
 cases h with
 |c h=>exact .c (h.kx k hm)
 |a h=>exact .a (h.kx k λc hc=>by have:=List.any_eq_false.1 (show List.any _ _=false from hm) c hc;simpa using this)
 |t h hh=>
  refine .t h λj d u h1 h2=>?_
  have h3:bGz i d=false:=by
   have:=List.any_eq_false.1 (show List.any _ _=false from hm) d (List.mem_of_getElem? h1)
   simpa using this
  cases hh j d u h1 h2 with
  |c h=>exact .c (h.kx k h3)
  |a h=>exact .a (h.kx k λc hc=>by have:=List.any_eq_false.1 (show List.any _ _=false from h3) c hc;simpa using this)
  |t _ _=>cases h3
theorem aGo:∀{l:List CV} {k:List CV->Prop},aVb i l k->k (l.map (aBb i))
 |[],k,h=>h
 |c::l,k,h=>aGo (l:=l) h
theorem xY (kx:Kx i ρ n w ρ' w'):∀{sl:List (Nat×DV)} {k:List (Nat×DV)->Prop},aBc i sl k->∃sl',k sl'∧∀t d',cT sl' t=some d'->∃d,cT sl t=some d∧∀x,Hd ρ n w d x->Hd ρ' n w' d' x
 |[],k,h=>⟨[],h,λt d' h=>by cases h⟩
 |(t0,d0)::l,k,h=>by
  unfold aBc at h
  cases hm:aBa i d0 with
  |true=>
   rw[hm] at h
   obtain⟨sl',h1,h2⟩:=xY kx (show aBc i l _ from h)
   refine⟨_,h1,λt d' ht=>?_⟩
   unfold cT at ht ⊢
   cases hb:Nat.beq t0 t with
   |true=>simp only[hb,cond_true] at ht ⊢;injection ht with ht;subst ht;exact⟨d0,rfl,λx _=> .c (Rc.u x)⟩
   |false=>simp only[hb,cond_false] at ht ⊢;exact h2 t d' ht
  |false=>
   rw[hm] at h
   obtain⟨sl',h1,h2⟩:=xY kx (show aBc i l _ from h)
   refine⟨_,h1,λt d' ht=>?_⟩
   unfold cT at ht ⊢
   cases hb:Nat.beq t0 t with
   |true=>simp only[hb,cond_true] at ht ⊢;injection ht with ht;subst ht;exact⟨d0,rfl,λx hx=>hx.kx kx hm⟩
   |false=>simp only[hb,cond_false] at ht ⊢;exact h2 t d' ht
theorem tC (kx:Kx i ρ n w ρ' w'):∀{bl:List (TypeId×Nat×List CV)} {j:Nat} {k:List (TypeId×Nat×List CV)->Prop},aDh i j bl k->∃bl',k bl'∧bl'.length=bl.length∧∀(m:Nat) (T:TypeId) (es:Nat) (l':List CV),bl'[m]? =some (T,es,l')->∃l,bl[m]? =some (T,es,l)∧(j+m=i->l'=l)∧(j+m≠i->∀vl,Hl ρ n w l vl->Hl ρ' n w' l' vl)∧l'.length=l.length
 |[],j,k,h=>⟨[],h,rfl,λm T es l' h=>by cases h⟩
 |(T0,es0,l0)::r,j,k,h=>by
  have step:∀l0' r',(∀(m:Nat) (T:TypeId) (es:Nat) (l':List CV),r'[m]? =some (T,es,l')->∃l,r[m]? =some (T,es,l)∧(j+1+m=i->l'=l)∧(j+1+m≠i->∀vl,Hl ρ n w l vl->Hl ρ' n w' l' vl)∧l'.length=l.length)->
   (j=i->l0'=l0)->(j≠i->∀vl,Hl ρ n w l0 vl->Hl ρ' n w' l0' vl)->l0'.length=l0.length->
   ∀(m:Nat) (T:TypeId) (es:Nat) (l':List CV),((T0,es0,l0')::r')[m]? =some (T,es,l')->∃l,((T0,es0,l0)::r)[m]? =some (T,es,l)∧(j+m=i->l'=l)∧(j+m≠i->∀vl,Hl ρ n w l vl->Hl ρ' n w' l' vl)∧l'.length=l.length:=by
   intro l0' r' hr h1 h2 h3 m T es l' hm
   cases m with
   |zero=>
    injection hm with hm
    injection hm with e1 e2
    injection e2 with e2 e3
    subst e1 e2 e3
    exact⟨l0,rfl,by simpa using h1,by simpa using h2,h3⟩
   |succ m=>
    obtain⟨l,a1,a2,a3,a4⟩:=hr m T es l' hm
    exact⟨l,a1,λhe=>a2 oM,λhe=>a3 oM,a4⟩
  unfold aDh at h
  cases hb:Nat.beq j i with
  |true=>
   have e:=Nat.eq_of_beq_eq_true hb
   rw[hb] at h
   obtain⟨r',h1,h2,h3⟩:=tC kx (show aDh i (j+1) r _ from h)
   exact⟨_,h1,by simp[h2],step l0 r' h3 (λ_=>rfl) (λhne=>absurd e hne) rfl⟩
  |false=>
   have hne:=fQ hb
   rw[hb] at h
   simp only[cond_false] at h
   cases hz:Nat.beq es0 0 with
   |true=>
    rw[hz] at h
    obtain⟨r',h1,h2,h3⟩:=tC kx (aGo (show aVb i l0 _ from h))
    exact⟨_,h1,by simp[h2],step _ r' h3 (λhe=>absurd he hne) (λ_ vl hl=>hl.kill kx) (by simp)⟩
   |false=>
    rw[hz] at h
    obtain⟨h0,h⟩:=h
    obtain⟨r',h1,h2,h3⟩:=tC kx h
    exact⟨_,h1,by simp[h2],step l0 r' h3 (λ_=>rfl) (λ_ vl hl=>hl.kx kx h0) rfl⟩
theorem FamOk.kx (h:FamOk ρ n w) (k:Kx i ρ n w ρ' w') (hF:ρ'.F=ρ.F) (hfb:∀b,InF ρ b->w'.heap[b]? =w.heap[b]?) (hfi:∀b,(ρ' i).1=some b->¬InF ρ b):FamOk ρ' n w':=
 h.mono hF k.z hfb λj b hj hb=>by
  by_cases hji:j=i
  ·subst hji;exact hfi b hb
  rw[k.pl j hj hji] at hb;exact h.own j b hj hb
theorem aBd {k:SS->Prop} (h:oR i s k) (hD:Dn ρ0 w0 nb s ρ f w) (kx:Kx i ρ s.bl.length w ρ' w') (hnb:nb<=i) (hi:i<s.bl.length) (hfr:∀b,(ρ' i).1=some b->w0.heap.size<=b) (hinj:∀j b,j<s.bl.length->j≠i->(ρ j).1=some b->(ρ' i).1≠some b) (hrl:Rl w0 nb ρ0 ρ w->Rl w0 nb ρ0 ρ w') (hZ:ρ'.Z=ρ.Z) {fl':List Fam} (hF:ρ'.F=fl') (hfam:FamOk ρ' s.bl.length w') (hffr:∀b,InF ρ' b->w0.heap.size<=b∨InF ρ0 b):
 ∃sl' bl',k ⟨sl',[],bl',s.fl⟩∧bl'.length=s.bl.length∧(∃T es l,s.bl[i]? =some (T,es,l)∧bl'[i]? =some (T,es,l))∧∀T es l,Bq ρ' s.bl.length w' i T es l->Dn ρ0 w0 nb ⟨sl',[],bl'.set i (T,es,l),fl'⟩ ρ' f w':=by
 obtain⟨sl,gl,bl,fl⟩:=s
 unfold oR at h
 simp only at h
 cases hg:gl.isEmpty with
 |false=>rw[hg] at h;exact h.elim
 |true=>
  rw[hg] at h
  obtain⟨sl',h1,h2⟩:=xY kx (show aBc i sl _ from h)
  obtain⟨bl',h3,h4,h5⟩:=tC kx h1
  refine⟨sl',bl',h3,h4,?_,λT es l hq=>⟨⟨λj T2 e2 l2 hj=>?_,λa b bb ha hb hab hbb=>?_,λj b hj hj2 hb=>?_,?_,?_,λj hj=>(kx.pl j (Nat.lt_of_lt_of_le hj (Nat.le_trans hnb (Nat.le_of_lt hi))) oM).trans (hD.m.pl j hj),by rw[hZ];exact hD.m.zz,?_,hffr⟩,⟨?_,?_⟩,hF⟩⟩
  ·have hlt:i<bl'.length:=by rw[h4];exact hi
   obtain⟨l,e1,e2,_⟩:=h5 i (bl'[i]).1 (bl'[i]).2.1 (bl'[i]).2.2 (List.getElem?_eq_getElem hlt)
   refine⟨_,_,l,e1,?_⟩
   rw[List.getElem?_eq_getElem hlt,<-e2 oM]
  ·have hn:(bl'.set i (T,es,l)).length=bl.length:=by rw[List.length_set,h4]
   show Bq ρ' (bl'.set i (T,es,l)).length w' j T2 e2 l2
   rw[hn]
   rcases fK hj with ⟨rfl,he,_⟩|⟨hne,hj'⟩
   ·injection he with e1 e2
    injection e2 with e2 e3
    subst e1 e2 e3
    exact hq
   obtain⟨l0,a1,_,a3,a4⟩:=h5 j T2 e2 l2 hj'
   have hlt:=bK a1
   have hq0:=hD.m.ok j T2 e2 l0 a1
   unfold Bq at hq0 ⊢
   rw[kx.pl j hlt hne]
   cases hb:(ρ j).1 with
   |none=>
    simp only[hb] at hq0 ⊢
    refine⟨List.eq_nil_of_length_eq_zero ?_,hq0.2⟩
    rw[a4,hq0.1]
    rfl
   |some b=>
    simp only[hb] at hq0 ⊢
    obtain⟨vl,junk,q1,q2,q3⟩:=hq0
    exact⟨vl,junk,by rw[kx.ob j b hlt hne hb];exact q1,a3 oM vl q2,q3⟩
  ·simp only[List.length_set,h4] at ha hb
   by_cases hai:a=i<;>by_cases hbi:b=i
   ·omega
   ·subst hai;rw[kx.pl b hb hbi] at hbb;exact absurd hab (hinj b bb hb hbi hbb)
   ·subst hbi;rw[kx.pl a ha hai] at hab;exact absurd hbb (hinj a bb ha hai hab)
   rw[kx.pl a ha hai] at hab;rw[kx.pl b hb hbi] at hbb;exact hD.m.inj a b bb ha hb hab hbb
  ·simp only[List.length_set,h4] at hj2
   by_cases hji:j=i
   ·subst hji;exact hfr b hb
   rw[kx.pl j hj2 hji] at hb;exact hD.m.fr j b hj hj2 hb
  ·simp only[List.length_set,h4];exact hD.m.nbl
  ·have hr:=hrl hD.m.rel
   exact⟨hr.os,hr.tape,hr.output,hr.size,λk hk hn hf=>hr.block k hk (λj hj=>by
    have:=hn j hj
    rw[kx.pl j (Nat.lt_of_lt_of_le hj (Nat.le_trans hnb (Nat.le_of_lt hi))) oM] at this
    exact this) hf⟩
  ·simp only[List.length_set,h4]
   exact hfam
  ·intro t d' ht
   obtain⟨d,a1,a2⟩:=h2 t d' ht
   show Hd ρ' (bl'.set i (T,es,l)).length w' d' (f t)
   rw[List.length_set,h4]
   exact a2 _ (hD.f.sl t d a1)
  intro t gs d ht
  cases ht
end kx
end Go.Vy
