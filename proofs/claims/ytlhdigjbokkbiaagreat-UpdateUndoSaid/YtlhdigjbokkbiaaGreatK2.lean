/- For every input the law UpdateUndo returns true, and what came in reads as it did. Part 2 of 7: Nd Ne Nl Mlng Vgm Vgn Nf Ng Mleh Mwin Nh Ni Nj Ia Mquo Rg Rh Qa. -/
import Derived.Shelf.Small.Bits
import Derived.Deep.SlicePairs
import Derived.Test.YtlhdigjbokkbiaaGreatK1
set_option maxHeartbeats 4000000
set_option linter.unusedVariables false
set_option linter.unusedSimpArgs false
namespace Go.Proofs.YtlhdigjbokkbiaaGreat.W
open Go.Vg Go.RowKit _root_.Go.Proofs.Tryz
open Go.Vm
theorem bNg {x s:Nat} (hs:s<=31) (hx:x<4294967296):IntKind.u64.wrap ((x:Int)*2^(min (s:Int).toNat IntKind.u64.bits))=((x*2^s:Nat):Int):=by
 rw[Int.toNat_natCast,show min s IntKind.u64.bits=s from Nat.min_eq_left (Nat.le_trans hs dC)]
 have h:=uJ (c:=0) hs (Nat.pow_pos dC) hx
 rw[show((x:Int)*2^s)=((x*2^s:Nat):Int) by simp]
 generalize x*2^s=p at*
 exact cX oM
theorem orS {c x s:Nat} (hc:c<2^s) (hb:c+x*2^s<18446744073709551616):IntKind.u64.wrap ((BitVec.ofInt IntKind.u64.bits (c:Int)|||BitVec.ofInt IntKind.u64.bits ((x*2^s:Nat):Int)).toNat:Int)=((c+x*2^s:Nat):Int):=by
 show IntKind.u64.wrap ((BitVec.ofInt 64 (c:Int)|||BitVec.ofInt 64 ((x*2^s:Nat):Int)).toNat:Int)=_
 have h1:c<2^64:=by omega
 have h2:x*2^s<2^64:=by omega
 rw[BitVec.ofInt_natCast,BitVec.ofInt_natCast,BitVec.toNat_or,BitVec.toNat_ofNat,BitVec.toNat_ofNat,Nat.mod_eq_of_lt h1,Nat.mod_eq_of_lt h2,aZz hc]
 generalize c+x*2^s=p at*
 exact cX oM
theorem bNh {x s:Nat} (hs:s<=31):(x:Int).fdiv (2^(min (s:Int).toNat IntKind.u64.bits))=((x/2^s:Nat):Int):=by
 rw[Int.toNat_natCast,show min s IntKind.u64.bits=s from Nat.min_eq_left (Nat.le_trans hs dC),Int.fdiv_eq_ediv_of_nonneg _ (Int.le_of_lt (Int.pow_pos dC))]
 simp
theorem orH {x y:Nat} (hx:x<4294967296) (hy:y<4294967296):IntKind.u64.wrap ((BitVec.ofInt IntKind.u64.bits (x:Int)|||BitVec.ofInt IntKind.u64.bits ((y*4294967296:Nat):Int)).toNat:Int)=((x+4294967296*y:Nat):Int):=by
 have h:=or32 hy hx
 rw[show(x+4294967296*y)=y*4294967296+x by omega,<-h]
 congr 2
 exact congrArg BitVec.toNat (BitVec.or_comm _ _)
theorem aYf {s:Nat} (hs:s<=31):IntKind.i64.wrap ((s:Int).tdiv 32)=0:=by
 rw[quo32 oM,Nat.div_eq_of_lt oM];rfl
theorem bGt {s:Nat} (hs:s<=31):(s:Int).tmod 32=(s:Int):=by
 rw[rem32,Nat.mod_eq_of_lt oM]
theorem wV {w:World} {Dx:Nat->TypeId->Prop} {vx:Value} {x:List Nat} (hx0:Sg (gN .u32) Dx w vx x) (lmx:Lm x) (lnx:x.length<=1099511627776) {sh:Nat} (hs:sh<=31):
 Calls Tryz.prog 174 #[vx,(iv sh)] w λe w'=>∃v,e= .returned v∧(∃b L,v= .slice (some ⟨b,0,none⟩) (x.length+1) (x.length+1)∧w.heap.size<=b∧Ar (gN .u32) w' b 131 0 L (x.length+1)∧Lm L∧val L=val x*2^sh)∧Ext w w':=by
 have hE:Below w.heap.size w w:=Below.refl _ _
 have hx:=hx0.old
 clear hx0
 have hlvx:=bJ lmx
 refine bH (n:=41) (rs:=[.tmp 4]) func174 rfl rfl rfl bL ?_
 refine cV λF0 hF0=>?_
 refine wsr (aS (v:=(.slice none (0) (0))) rfl (RL.nil (wsr (mV (v:=vx) (hF0 0) ?_))))
 obtain⟨A1,c2,hv3,hc4,hc5⟩:=hx.len
 refine rV (cK bE hv3) (rV (dP (k:=.i64) (a:=((x.length:Nat):Int)) (b:=1) (c:=((x.length:Nat):Int)+1) rfl rfl (dJ oM)) ?_)
 have hn11:(((x.length:Nat):Int)+1:Int)=((x.length+1:Nat):Int):=by omega
 refine rU (jY (n:=x.length+1) bE bM rfl (aQ hn11) (aQ hn11) oM oM) ?_
 rintro _ w6 ⟨b7,rfl,hs10,hb9,he8⟩
 have ge_b7:=hE.ge hs10
 replace hE:=hE.nx he8
 replace hb9:=Ar.made (g:=(gN .u32)) (z:=(0:Nat)) hb9 rfl
 have hb9l:=hb9.lt
 refine aS (v:=(.slice (some ⟨b7,0,none⟩) (x.length+1) (x.length+1))) rfl (RL.nil (wsr (aS (v:=(.int .u64 0)) rfl (RL.nil (bB ?_)))))
 refine wsr (mV (v:=vx) (hF0 0) (rV (cK bE hv3) (mV (v:=(iv 0)) rfl (RL.nil ?_))))
 refine cF ?_
 refine cV λF12 hF13=>?_
 refine fU (σ:=Nat×Nat×List Nat) (λ(s:Nat×Nat×List Nat) fl wl=>match s with|(k,c,P)=>Off (rg 6 3 (rg 15 19 [])) F12 fl∧fl 15=(iv k)∧fl 6=(.int .u64 (c:Int))∧(k<=x.length)∧(P.length=k)∧(Lm P)∧(c<2^sh)∧(val P+4294967296^k*c=val (x.take k)*2^sh)∧(Ar (gN .u32) wl b7 131 0 (eY P (x.length+1)) (x.length+1))∧(Sg (gN .u32) (λb T=>Dx b T∧b<w.heap.size) wl vx x)∧(Below w.heap.size w wl)) (λ(s:Nat×Nat×List Nat)=>match s with|(k,c,P)=>x.length-k) (0,0,[]) ?_ ?_
 ·replace hx:=hx.tr (Sm.ext he8)
  exact⟨Off.refl _ _,(hF13 15).trans (rfl),(hF13 6).trans (rfl),Nat.zero_le _,rfl,Lm.nil,Nat.pow_pos dC,(by simp[val]),(by rw[jK];exact hb9),hx,hE⟩
 clear hx hE hb9
 rintro⟨k,c,P⟩ f14 w15 ⟨hoff16,hs17,hs18,hk,hP,hLm,hc,hv,hb9,hx,hE⟩
 refine wsr (rV (eQ (k:=.i64) (a:=(k:Int)) (b:=((x.length:Nat):Int)) hs17 ((hoff16 14 rfl).trans (hF13 14))) (RL.nil (bB ?_)))
 refine wcD (p:=(k:Int)<((x.length:Nat):Int)) rfl (λhb19 hb19p=>?_) (λhb19 hb19p=>?_)
 ·refine bW ?_
  refine bB ?_
  refine cF ?_
  refine bB ?_
  have hkl:k<x.length:=by omega
  have hxk:=lmx.at hkl
  have hcr:=uJ hs hc hxk
  refine aV (mV hs17 ?_)
  obtain⟨b20,o21,c22,hv23,hc24⟩:=hx.ix (i:=(k:Int)) (k) oM oM
  refine rV (aJ (i:=(k:Int)) bE bM ((((hoff16 13 rfl).trans (hF13 13))).trans hv23) hs17 oM oM) (rV (aY (v:=(.int .u32 (((x.getD (k) default:Nat):Int)))) bN dR rfl hc24) (aS (v:=(iv k)) rfl (aS (v:=(.int .u32 (((x.getD (k) default:Nat):Int)))) rfl (RL.nil (wsr ?_)))))
  refine mV hs18 (mV (v:=(.int .u32 (((x.getD (k) default:Nat):Int)))) rfl (rV (bR (k:=.u64) (a:=((x.getD (k) default:Nat):Int)) (c:=((x.getD (k) default:Nat):Int)) bN dB rfl (cX oM)) (mV (v:=(iv sh)) ((hoff16 1 rfl).trans ((hF13 1).trans (hF0 1))) (rV (pL (k:=.u64) (a:=((x.getD (k) default:Nat):Int)) (b:=(sh:Int)) (c:=((x.getD k default*2^sh:Nat):Int)) rfl rfl oM (bNg hs hxk)) (rV (xM (k:=.u64) (a:=(c:Int)) (b:=((x.getD k default*2^sh:Nat):Int)) (c:=(((c+x.getD k default*2^sh):Nat):Int)) rfl rfl (orS hc (by have:=hcr.1;omega))) ?_)))))
  refine aS (v:=(.int .u64 ((((c+x.getD k default*2^sh):Nat):Int)))) rfl (RL.nil (wsr (mV (v:=(.slice (some ⟨b7,0,none⟩) (x.length+1) (x.length+1))) ((hoff16 5 rfl).trans (hF13 5)) (mV (v:=(iv k)) rfl (mV (v:=(.int .u64 ((((c+x.getD k default*2^sh):Nat):Int)))) rfl ?_)))))
  refine rV (bR (k:=.u32) (a:=(((c+x.getD k default*2^sh):Nat):Int)) (c:=(((c+x.getD k default*2^sh)%4294967296:Nat):Int)) dB bN rfl (cu32 _)) (rV (aJ (i:=(k:Int)) bE bM rfl rfl oM oM) ?_)
  refine RL.runs rfl rfl (oN (g:=(gN .u32)) (vv:=(.int .u32 ((((c+x.getD k default*2^sh)%4294967296:Nat):Int)))) (u:=(c+x.getD k default*2^sh)%4294967296) (i:=(k:Int)) bM rfl rfl rfl rfl rfl hb9 (k) oM oM) ?_
  rintro w25 ⟨ha26,hx27⟩
  replace hE:=hE.nb hx27 ge_b7
  replace hb9:=ha26
  refine RL.nil (aV (mV (v:=(.int .u64 ((((c+x.getD k default*2^sh):Nat):Int)))) rfl (rV (jM (k:=.u64) (a:=(((c+x.getD k default*2^sh):Nat):Int)) (b:=32) (c:=(((c+x.getD k default*2^sh)/4294967296:Nat):Int)) rfl rfl dC (shr32 _)) (aS (v:=(.int .u64 ((((c+x.getD k default*2^sh)/4294967296:Nat):Int)))) rfl (RL.nil ?_)))))
  refine aV (rV (dP (k:=.i64) (a:=(k:Int)) (b:=1) (c:=(k:Int)+1) hs17 rfl (dJ oM)) (mV (v:=(iv ((k:Int)+1))) rfl (RL.nil ?_)))
  replace hx:=hx.tr (Sm.exc hx27 (λ_ _ _ _ hd=>absurd hd.2 (Nat.not_lt_of_le ge_b7)))
  refine⟨(k+1,(c+x.getD k default*2^sh)/4294967296,P++[(c+x.getD k default*2^sh)%4294967296]),⟨?_,?_,?_,?_,?_,?_,?_,?_,?_,?_,?_⟩,?_⟩
  ·exact(by repeat (first|exact hoff16|refine Off.st ?_ dC _))
  ·first|rfl|exact aQ oM|exact aD (by simp)
  ·first|rfl|exact aQ oM|exact aD (by simp)
  ·omega
  ·rw[List.length_append,hP];rfl
  ·exact hLm.snoc (Nat.mod_lt _ dC)
  ·exact hcr.2.1
  ·rw[bI hkl];exact aUk hP hv
  ·rw[gM hP oM] at hb9;exact hb9
  ·exact hx
  ·exact hE
  (try dsimp only)
  omega
 refine fB ?_
 refine bB ?_
 have hcs:=uJ (x:=0) hs hc dC
 refine aV (mV (v:=(.slice (some ⟨b7,0,none⟩) (x.length+1) (x.length+1))) ((hoff16 5 rfl).trans (hF13 5)) (mV (v:=vx) ((hoff16 0 rfl).trans ((hF13 0).trans (hF0 0))) (rV (cK bE hv3) (mV hs18 (rV (bR (k:=.u32) (a:=(c:Int)) (c:=((c%4294967296:Nat):Int)) dB bN rfl (cu32 _)) ?_)))))
 refine rV (aJ (i:=((x.length:Nat):Int)) bE bM rfl rfl oM oM) ?_
 refine RL.runs rfl rfl (oN (g:=(gN .u32)) (vv:=(.int .u32 (((c%4294967296:Nat):Int)))) (u:=c%4294967296) (i:=((x.length:Nat):Int)) bM rfl rfl rfl rfl rfl hb9 (x.length) oM oM) ?_
 rintro w28 ⟨ha29,hx30⟩
 replace hE:=hE.nb hx30 ge_b7
 replace hb9:=ha29
 refine RL.nil (bB ?_)
 have hka:k=x.length:=by omega
 rw[gM oM oM,iF (by simp;omega)] at hb9
 have hfin:val (P++[c%4294967296])=val x*2^sh:=by
  rw[eS,hP,Nat.mod_eq_of_lt oM,hv,hka,List.take_of_length_le (Nat.le_refl _)]
 refine aV (mV (v:=(.slice (some ⟨b7,0,none⟩) (x.length+1) (x.length+1))) ((hoff16 5 rfl).trans (hF13 5)) (aS (v:=(.slice (some ⟨b7,0,none⟩) (x.length+1) (x.length+1))) rfl (RL.nil ?_)))
 refine cE ?_
 refine⟨[(.slice (some ⟨b7,0,none⟩) (x.length+1) (x.length+1))],⟨rfl,trivial⟩,?_⟩
 exact⟨⟨_,_,rfl,ge_b7,hb9,hLm.snoc (Nat.mod_lt _ dC),hfin⟩,hE⟩
theorem bGu {w:World} {Dx:Nat->TypeId->Prop} {vx:Value} {x:List Nat} (hx0:Sg (gN .u32) Dx w vx x) (lmx:Lm x) (lnx:x.length<=1099511627776) {sh:Nat} (hs:sh<=31):
 Calls Tryz.prog 176 #[vx,(iv sh)] w λe w'=>∃v,e= .returned v∧(∃vr,v= .tuple #[vr,.bool true]∧Sg (gN .u32) (λb T=>w.heap.size<=b∧T=131) w' vr (aB (val x/2^sh)))∧Ext w w':=by
 have hE:Below w.heap.size w w:=Below.refl _ _
 have hx:=hx0.old
 clear hx0
 have hlvx:=bJ lmx
 refine bH (n:=62) (rs:=[.tmp 4,.tmp 5]) func176 rfl rfl rfl bL ?_
 refine cV λF0 hF0=>?_
 refine wsr (aS (v:=(.slice none (0) (0))) rfl (aS (v:=(.bool false)) rfl (RL.nil (bB (wsr ?_)))))
 refine mV (v:=(iv sh)) (hF0 1) (rV (eQ (k:=.i64) (a:=(sh:Int)) (b:=0) rfl rfl) (RL.nil ?_))
 refine wcD (p:=(sh:Int)<0) rfl (λhb1 hb1p=>?_) (λhb1 hb1p=>?_)
 ·exact absurd hb1p oM
 refine bW ?_
 refine wsr (mV (v:=vx) (hF0 0) ?_)
 refine cL eN (fW hx (by assumption) (by first|omega|(simp;done)|(simp;omega))) rfl ?_
 rintro vr3 _ ⟨hr4,rfl⟩
 have hlv5:=bJ (x:=x) (by assumption)
 refine aS (v:=vr3) rfl (RL.nil (bB (wsr (mV (v:=(iv sh)) (hF0 1) (rV (pJ (k:=.i64) (a:=(sh:Int)) (b:=32) (c:=0) rfl rfl dC (aYf hs)) ?_)))))
 refine mV (v:=vr3) rfl ?_
 obtain⟨A6,c7,hv8,hc9,hc10⟩:=hr4.len
 refine rV (cK bE hv8) (rV (sD (k:=.i64) (a:=0) (b:=(((aB (val x)).length:Nat):Int)) rfl rfl) (RL.nil ?_))
 refine wcD (p:=(((aB (val x)).length:Nat):Int)<=0) rfl (λhb11 hb11p=>?_) (λhb11 hb11p=>?_)
 ·have hx0:val x=0:=eB.1 (by unfold len;omega)
  refine wsr (aS (v:=(.slice none (0) (0))) rfl (aS (v:=(.bool true)) rfl (RL.nil ?_)))
  refine cE ?_
  refine⟨[(.slice none (0) (0)),(.bool true)],⟨rfl,⟨rfl,trivial⟩⟩,?_⟩
  exact⟨⟨_,rfl,by rw[hx0,Nat.zero_div];exact Sg.nil⟩,hE⟩
 refine bW ?_
 refine wsr (mV (v:=vr3) rfl (mV (v:=(iv sh)) (hF0 1) (rV (pJ (k:=.i64) (a:=(sh:Int)) (b:=32) (c:=0) rfl rfl dC (aYf hs)) ?_)))
 have r12:=hr4.drop 0 (Nat.zero_le _) hv8
 rw[List.drop_zero] at r12
 refine rV (bNd (l:=0) (kk:=0) bE bM hv8 rfl rfl (Nat.zero_le _)) (aS (v:=(.slice (if c7=0 then (A6:Option Addr) else (A6:Option Addr).map (·.add (0*1))) ((aB (val x)).length-0) (c7-0))) rfl (RL.nil (wsr (mV (v:=(iv sh)) (hF0 1) (rV (sC (k:=.i64) (a:=(sh:Int)) (b:=32) (c:=(sh:Int)) rfl rfl dC (bGt hs)) ?_)))))
 refine aS (v:=(iv sh)) rfl (RL.nil (wsr (mV (v:=(.slice (if c7=0 then (A6:Option Addr) else (A6:Option Addr).map (·.add (0*1))) ((aB (val x)).length-0) (c7-0))) rfl ?_)))
 obtain⟨A13,c14,hv15,hc16,hc17⟩:=r12.len
 refine rV (cK bE hv15) ?_
 have hn23:((((aB (val x)).length:Nat):Int):Int)=(((aB (val x)).length:Nat):Int):=by omega
 refine rU (jY (n:=(aB (val x)).length) bE bM rfl (aQ hn23) (aQ hn23) oM oM) ?_
 rintro _ w18 ⟨b19,rfl,hs22,hb21,he20⟩
 have ge_b19:=hE.ge hs22
 replace hE:=hE.nx he20
 replace hb21:=Ar.made (g:=(gN .u32)) (z:=(0:Nat)) hb21 rfl
 have hb21l:=hb21.lt
 refine aS (v:=(.slice (some ⟨b19,0,none⟩) ((aB (val x)).length) ((aB (val x)).length))) rfl (RL.nil (bB (wsr (mV (v:=(.slice (if c7=0 then (A6:Option Addr) else (A6:Option Addr).map (·.add (0*1))) ((aB (val x)).length-0) (c7-0))) rfl (rV (cK bE hv15) ?_)))))
 refine mV (v:=(iv 0)) rfl (RL.nil ?_)
 refine cF ?_
 refine cV λF24 hF25=>?_
 refine fU (σ:=Nat×List Nat) (λ(s:Nat×List Nat) fl wl=>match s with|(k,P)=>Off (rg 8 3 (rg 31 29 [])) F24 fl∧fl 31=(iv k)∧(k<=(aB (val x)).length)∧(P.length=k)∧(Lm P)∧(val P=val x/2^sh%4294967296^k)∧(Ar (gN .u32) wl b19 131 0 (eY P (aB (val x)).length) ((aB (val x)).length))∧(Sg (gN .u32) (λb T=>Dx b T∧b<w.heap.size) wl vx x)∧(Below w.heap.size w wl)∧(Sg (gN .u32) (λb T=>Dx b T∧b<w.heap.size) wl vr3 (aB (val x)))∧(Sg (gN .u32) (λb T=>Dx b T∧b<w.heap.size) wl (.slice (if c7=0 then (A6:Option Addr) else (A6:Option Addr).map (·.add (0*1))) ((aB (val x)).length-0) (c7-0)) (aB (val x)))) (λ(s:Nat×List Nat)=>match s with|(k,P)=>(aB (val x)).length-k) (0,[]) ?_ ?_
 ·replace hx:=hx.tr (Sm.ext he20)
  replace hr4:=hr4.tr (Sm.ext he20)
  replace r12:=r12.tr (Sm.ext he20)
  exact⟨Off.refl _ _,(hF25 31).trans (rfl),Nat.zero_le _,rfl,Lm.nil,(by simp[val,Nat.mod_one]),(by rw[jK];exact hb21),hx,hE,hr4,r12⟩
 clear hx hE hr4 r12 hb21
 rintro⟨k,P⟩ f26 w27 ⟨hoff28,hs29,hk,hP,hLm,hv,hb21,hx,hE,hr4,r12⟩
 refine wsr (rV (eQ (k:=.i64) (a:=(k:Int)) (b:=(((aB (val x)).length:Nat):Int)) hs29 ((hoff28 30 rfl).trans (hF25 30))) (RL.nil (bB ?_)))
 refine wcD (p:=(k:Int)<(((aB (val x)).length:Nat):Int)) rfl (λhb30 hb30p=>?_) (λhb30 hb30p=>?_)
 ·refine bW ?_
  refine bB ?_
  refine cF ?_
  refine bB ?_
  have hkl:k<(aB (val x)).length:=by omega
  have hxk:=(aR (val x)).at hkl
  have hd0:=kH (aR (val x)) k
  have hd1:=kH (aR (val x)) (k+1)
  refine aV (mV hs29 ?_)
  obtain⟨b31,o32,c33,hv34,hc35⟩:=r12.ix (i:=(k:Int)) (k) oM oM
  refine rV (aJ (i:=(k:Int)) bE bM ((((hoff28 29 rfl).trans (hF25 29))).trans hv34) hs29 oM oM) (rV (aY (v:=(.int .u32 ((((aB (val x)).getD (k) default:Nat):Int)))) bN dR rfl hc35) (aS (v:=(iv k)) rfl (aS (v:=(.int .u32 ((((aB (val x)).getD (k) default:Nat):Int)))) rfl (RL.nil (wsr ?_)))))
  refine mV (v:=(.int .u32 ((((aB (val x)).getD (k) default:Nat):Int)))) rfl (rV (bR (k:=.u64) (a:=(((aB (val x)).getD (k) default:Nat):Int)) (c:=(((aB (val x)).getD (k) default:Nat):Int)) bN dB rfl (cX oM)) (aS (v:=(.int .u64 ((((aB (val x)).getD (k) default:Nat):Int)))) rfl (RL.nil ?_)))
  refine cV λF36 hF37=>?_
  refine oI (λfl wl=>Off (10::(rg 38 14 [])) F36 fl∧fl 10=(.int .u64 ((((dig (aB (val x)) k+4294967296*dig (aB (val x)) (k+1)):Nat):Int)))∧(Sg (gN .u32) (λb T=>Dx b T∧b<w.heap.size) wl vx x)∧(Below w.heap.size w wl)∧(Sg (gN .u32) (λb T=>Dx b T∧b<w.heap.size) wl vr3 (aB (val x)))∧(Sg (gN .u32) (λb T=>Dx b T∧b<w.heap.size) wl (.slice (if c7=0 then (A6:Option Addr) else (A6:Option Addr).map (·.add (0*1))) ((aB (val x)).length-0) (c7-0)) (aB (val x)))∧(Ar (gN .u32) wl b19 131 0 (eY P (aB (val x)).length) ((aB (val x)).length))) ?_ ?_
  ·have hoff38:=Off.refl (10::(rg 38 14 [])) F36
   refine wsr (mV (v:=(iv k)) (hF37 8) (rV (dP (k:=.i64) (a:=(k:Int)) (b:=1) (c:=(k:Int)+1) rfl rfl (dJ oM)) (mV (v:=(.slice (if c7=0 then (A6:Option Addr) else (A6:Option Addr).map (·.add (0*1))) ((aB (val x)).length-0) (c7-0))) ((hF37 0).trans ((hoff28 0 rfl).trans (hF25 0))) (rV (cK bE hv15) (rV (eQ (k:=.i64) (a:=(k:Int)+1) (b:=(((aB (val x)).length:Nat):Int)) rfl rfl) ?_)))))
   refine RL.nil ?_
   refine wcD (p:=((k:Int)+1)<(((aB (val x)).length:Nat):Int)) rfl (λhb39 hb39p=>?_) (λhb39 hb39p=>?_)
   ·have hxk1:=(aR (val x)).at (k:=k+1) oM
    refine aV (mV (v:=(.int .u64 ((((aB (val x)).getD (k) default:Nat):Int)))) (hF37 10) (mV (v:=(.slice (if c7=0 then (A6:Option Addr) else (A6:Option Addr).map (·.add (0*1))) ((aB (val x)).length-0) (c7-0))) ((hF37 0).trans ((hoff28 0 rfl).trans (hF25 0))) (mV (v:=(iv k)) (hF37 8) (rV (dP (k:=.i64) (a:=(k:Int)) (b:=1) (c:=(k:Int)+1) rfl rfl (dJ oM)) ?_))))
    obtain⟨b40,o41,c42,hv43,hc44⟩:=r12.ix (i:=(k:Int)+1) (k+1) oM oM
    refine rV (aJ (i:=(k:Int)+1) bE bM hv43 rfl oM oM) (rV (aY (v:=(.int .u32 ((((aB (val x)).getD (k+1) default:Nat):Int)))) bN dR rfl hc44) (rV (bR (k:=.u64) (a:=(((aB (val x)).getD (k+1) default:Nat):Int)) (c:=(((aB (val x)).getD (k+1) default:Nat):Int)) bN dB rfl (cX oM)) (rV (pL (k:=.u64) (a:=(((aB (val x)).getD (k+1) default:Nat):Int)) (b:=32) (c:=(((aB (val x)).getD (k+1) default*4294967296:Nat):Int)) rfl rfl dC (shl32 hxk1)) (rV (xM (k:=.u64) (a:=(((aB (val x)).getD (k) default:Nat):Int)) (b:=(((aB (val x)).getD (k+1) default*4294967296:Nat):Int)) (c:=(((aB (val x)).getD k default+4294967296*(aB (val x)).getD (k+1) default:Nat):Int)) rfl rfl (orH hxk hxk1)) (aS (v:=(.int .u64 ((((aB (val x)).getD k default+4294967296*(aB (val x)).getD (k+1) default:Nat):Int)))) rfl ?_)))))
    refine RL.nil ?_
    refine⟨?_,?_,?_,?_,?_,?_,?_⟩
    ·exact(by repeat (first|exact hoff38|refine Off.st ?_ dC _|refine Off.via hoff28 dC ?_|refine Off.eq hF25 ?_))
    ·first|exact aQ (by rw[gV (xs:=aB (val x)) (k:=k) oM,gV (xs:=aB (val x)) (k:=k+1) oM])|exact aQ (by rw[gV (xs:=aB (val x)) (k:=k) oM,kQ (xs:=aB (val x)) (k:=k+1) oM];omega)
    ·exact hx
    ·exact hE
    ·exact hr4
    ·exact r12
    exact hb21
   refine bW ?_
   refine⟨?_,?_,?_,?_,?_,?_,?_⟩
   ·exact(by repeat (first|exact hoff38|refine Off.st ?_ dC _|refine Off.via hoff28 dC ?_|refine Off.eq hF25 ?_))
   ·refine((hF37 10)).trans ?_
    first|exact aQ (by rw[gV (xs:=aB (val x)) (k:=k) oM,gV (xs:=aB (val x)) (k:=k+1) oM])|exact aQ (by rw[gV (xs:=aB (val x)) (k:=k) oM,kQ (xs:=aB (val x)) (k:=k+1) oM];omega)
   ·exact hx
   ·exact hE
   ·exact hr4
   ·exact r12
   exact hb21
  clear hx hE hr4 r12 hb21
  rintro f45 w46 ⟨hoff47,hs48,hx,hE,hr4,r12,hb21⟩
  refine aV (mV (v:=(.slice (some ⟨b19,0,none⟩) ((aB (val x)).length) ((aB (val x)).length))) ((hoff47 7 rfl).trans ((hF37 7).trans ((hoff28 7 rfl).trans (hF25 7)))) (mV (v:=(iv k)) ((hoff47 8 rfl).trans (hF37 8)) (mV (v:=(.int .u64 ((((dig (aB (val x)) k+4294967296*dig (aB (val x)) (k+1)):Nat):Int)))) hs48 (mV (v:=(iv sh)) ((hoff47 6 rfl).trans ((hF37 6).trans ((hoff28 6 rfl).trans (hF25 6)))) (rV (jM (k:=.u64) (a:=(((dig (aB (val x)) k+4294967296*dig (aB (val x)) (k+1)):Nat):Int)) (b:=(sh:Int)) (c:=(((dig (aB (val x)) k+4294967296*dig (aB (val x)) (k+1))/2^sh:Nat):Int)) rfl rfl oM (bNh hs)) ?_)))))
  refine rV (bR (k:=.u32) (a:=(((dig (aB (val x)) k+4294967296*dig (aB (val x)) (k+1))/2^sh:Nat):Int)) (c:=((((dig (aB (val x)) k+4294967296*dig (aB (val x)) (k+1))/2^sh)%4294967296:Nat):Int)) dB bN rfl (cu32 _)) (rV (aJ (i:=(k:Int)) bE bM rfl rfl oM oM) ?_)
  refine RL.runs rfl rfl (oN (g:=(gN .u32)) (vv:=(.int .u32 (((((dig (aB (val x)) k+4294967296*dig (aB (val x)) (k+1))/2^sh)%4294967296:Nat):Int)))) (u:=((dig (aB (val x)) k+4294967296*dig (aB (val x)) (k+1))/2^sh)%4294967296) (i:=(k:Int)) bM rfl rfl rfl rfl rfl hb21 (k) oM oM) ?_
  rintro w49 ⟨ha50,hx51⟩
  replace hE:=hE.nb hx51 ge_b19
  replace hb21:=ha50
  refine RL.nil (aV (rV (dP (k:=.i64) (a:=(k:Int)) (b:=1) (c:=(k:Int)+1) ((hoff47 31 rfl).trans ((hF37 31).trans hs29)) rfl (dJ oM)) (mV (v:=(iv ((k:Int)+1))) rfl (RL.nil ?_))))
  replace hx:=hx.tr (Sm.exc hx51 (λ_ _ _ _ hd=>absurd hd.2 (Nat.not_lt_of_le ge_b19)))
  replace hr4:=hr4.tr (Sm.exc hx51 (λ_ _ _ _ hd=>absurd hd.2 (Nat.not_lt_of_le ge_b19)))
  replace r12:=r12.tr (Sm.exc hx51 (λ_ _ _ _ hd=>absurd hd.2 (Nat.not_lt_of_le ge_b19)))
  refine⟨(k+1,P++[(dig (aB (val x)) k+4294967296*dig (aB (val x)) (k+1))/2^sh%4294967296]),⟨?_,?_,?_,?_,?_,?_,?_,?_,?_,?_,?_⟩,?_⟩
  ·exact(by repeat (first|exact hoff28|refine Off.st ?_ dC _|refine Off.via hoff47 dC ?_|refine Off.eq hF37 ?_))
  ·first|rfl|exact aQ oM|exact aD (by simp)
  ·omega
  ·rw[List.length_append,hP];rfl
  ·exact hLm.snoc (Nat.mod_lt _ dC)
  ·rw[aJa (aR (val x)) hs,aW];exact aLl hP hv
  ·rw[gM hP oM] at hb21;exact hb21
  ·exact hx
  ·exact hE
  ·exact hr4
  ·exact r12
  (try dsimp only)
  omega
 refine fB ?_
 refine bB ?_
 have hka:k=(aB (val x)).length:=by omega
 rw[iF oM] at hb21
 have hfin:val P=val x/2^sh:=by
  rw[hv,Nat.mod_eq_of_lt]
  refine Nat.lt_of_le_of_lt (Nat.div_le_self _ _) ?_
  have h9:=eM (aR (val x))
  rw[aW,<-hka] at h9
  exact h9
 refine aV (mV (v:=(.slice (some ⟨b19,0,none⟩) ((aB (val x)).length) ((aB (val x)).length))) ((hoff28 7 rfl).trans (hF25 7)) ?_)
 refine cL eN (fW (hb21.sc (D:=(λb T=>w.heap.size<=b∧T=131)) (Nat.le_refl _) oM ⟨ge_b19,rfl⟩) hLm (by first|omega|(simp;done)|(simp;omega))) rfl ?_
 rintro vr53 _ ⟨hr54,rfl⟩
 have hlv55:=bJ (x:=P) hLm
 refine aS (v:=vr53) rfl (aS (v:=(.bool true)) rfl (RL.nil ?_))
 refine cE ?_
 refine⟨[vr53,(.bool true)],⟨rfl,⟨rfl,trivial⟩⟩,?_⟩
 have hres:=hr54
 rw[hfin] at hres
 exact⟨⟨_,rfl,hres⟩,hE⟩
theorem bGv {w:World} {Dx:Nat->TypeId->Prop} {vx:Value} {x:List Nat} (hx0:Sg (gN .u32) Dx w vx x) (lmx:Lm x) (lnx:x.length<=1099511627776) {d:Nat} (hd0:0<d) (hd:d<4294967296):
 Calls Tryz.prog 151 #[vx,(.int .u32 (d:Int))] w λe w'=>∃v,e= .returned v∧(∃vq vr,v= .tuple #[vq,vr]∧Sg (gN .u32) (λb T=>w.heap.size<=b∧T=131) w' vq (aB (val x/d))∧Sg (gN .u32) (λb T=>w.heap.size<=b∧T=131) w' vr (aB (val x%d)))∧Ext w w':=by
 have hE:Below w.heap.size w w:=Below.refl _ _
 have hx:=hx0.old
 clear hx0
 have hlvx:=bJ lmx
 refine bH (n:=42) (rs:=[.tmp 4,.tmp 5]) func151 rfl rfl rfl bL ?_
 refine cV λF0 hF0=>?_
 refine wsr (aS (v:=(.slice none (0) (0))) rfl (aS (v:=(.slice none (0) (0))) rfl (RL.nil (wsr (mV (v:=vx) (hF0 0) ?_)))))
 obtain⟨A1,c2,hv3,hc4,hc5⟩:=hx.len
 refine rV (cK bE hv3) ?_
 have hn11:(((x.length:Nat):Int):Int)=((x.length:Nat):Int):=by omega
 refine rU (jY (n:=x.length) bE bM rfl (aQ hn11) (aQ hn11) oM oM) ?_
 rintro _ w6 ⟨b7,rfl,hs10,hb9,he8⟩
 have ge_b7:=hE.ge hs10
 replace hE:=hE.nx he8
 replace hb9:=Ar.made (g:=(gN .u32)) (z:=(0:Nat)) hb9 rfl
 have hb9l:=hb9.lt
 refine aS (v:=(.slice (some ⟨b7,0,none⟩) (x.length) (x.length))) rfl (RL.nil (wsr (aS (v:=(.int .u64 0)) rfl (RL.nil (bB ?_)))))
 refine wsr (mV (v:=vx) (hF0 0) (rV (cK bE hv3) (rV (eH (k:=.i64) (a:=((x.length:Nat):Int)) (b:=1) (c:=((x.length:Nat):Int)-1) rfl rfl (dJ oM)) (aS (v:=(iv (((x.length:Nat):Int)-1))) rfl (RL.nil ?_)))))
 refine cF ?_
 refine cV λF12 hF13=>?_
 refine fU (σ:=Nat×Nat×List Nat) (λ(s:Nat×Nat×List Nat) fl wl=>match s with|(m,r,Q)=>Off (rg 6 2 (rg 14 24 [])) F12 fl∧fl 7=(iv ((m:Int)-1))∧fl 6=(.int .u64 (r:Int))∧(m<=x.length)∧(r<d)∧(Q.length+m=x.length)∧(Lm Q)∧(val (x.drop m)=val Q*d+r)∧(Ar (gN .u32) wl b7 131 0 (List.replicate m 0++Q) x.length)∧(Sg (gN .u32) (λb T=>Dx b T∧b<w.heap.size) wl vx x)∧(Below w.heap.size w wl)) (λ(s:Nat×Nat×List Nat)=>match s with|(m,r,Q)=>m) (x.length,0,[]) ?_ ?_
 ·replace hx:=hx.tr (Sm.ext he8)
  exact⟨Off.refl _ _,(hF13 7).trans (rfl),(hF13 6).trans (rfl),Nat.le_refl _,by omega,by simp,Lm.nil,(by rw[List.drop_of_length_le (Nat.le_refl _)];simp[val]),(by simpa using hb9),hx,hE⟩
 clear hx hE hb9
 rintro⟨m,r,Q⟩ f14 w15 ⟨hoff16,hs17,hs18,hm,hr,hQl,hQm,hv,hb9,hx,hE⟩
 refine bB (wsr (mV hs17 (rV (sD (k:=.i64) (a:=(m:Int)-1) (b:=0) rfl rfl) (RL.nil ?_))))
 refine wcD (p:=0<=((m:Int)-1)) rfl (λhb19 hb19p=>?_) (λhb19 hb19p=>?_)
 ·refine bW ?_
  refine bB ?_
  refine cF ?_
  refine bB ?_
  obtain⟨n,hmn⟩:∃n,m=n+1:=⟨m-1,by omega⟩
  have hxn:=lmx.at (k:=n) oM
  have hll:=aUl hr hd hxn
  refine aV (mV hs18 (rV (pL (k:=.u64) (a:=(r:Int)) (b:=32) (c:=((r*4294967296:Nat):Int)) rfl rfl dC (shl32 oM)) (mV (v:=vx) ((hoff16 0 rfl).trans ((hF13 0).trans (hF0 0))) (mV hs17 ?_))))
  obtain⟨b20,o21,c22,hv23,hc24⟩:=hx.ix (i:=(m:Int)-1) (n) oM oM
  refine rV (aJ (i:=(m:Int)-1) bE bM hv23 rfl oM oM) (rV (aY (v:=(.int .u32 (((x.getD (n) default:Nat):Int)))) bN dR rfl hc24) (rV (bR (k:=.u64) (a:=((x.getD (n) default:Nat):Int)) (c:=((x.getD (n) default:Nat):Int)) bN dB rfl (cX oM)) (rV (xM (k:=.u64) (a:=((r*4294967296:Nat):Int)) (b:=((x.getD (n) default:Nat):Int)) (c:=(((r*4294967296+x.getD n default):Nat):Int)) rfl rfl (or32 oM hxn)) (aS (v:=(.int .u64 ((((r*4294967296+x.getD n default):Nat):Int)))) rfl (RL.nil ?_)))))
  refine wsr (mV (v:=(.slice (some ⟨b7,0,none⟩) (x.length) (x.length))) ((hoff16 4 rfl).trans (hF13 4)) (mV hs17 (mV (v:=(.int .u64 ((((r*4294967296+x.getD n default):Nat):Int)))) rfl (mV (v:=(.int .u32 (d:Int))) ((hoff16 1 rfl).trans ((hF13 1).trans (hF0 1))) (rV (bR (k:=.u64) (a:=(d:Int)) (c:=(d:Int)) bN dB rfl (cX oM)) ?_)))))
  refine rV (pJ (k:=.u64) (a:=(((r*4294967296+x.getD n default):Nat):Int)) (b:=(d:Int)) (c:=(((r*4294967296+x.getD n default)/d:Nat):Int)) rfl rfl oM (quoN hll.2)) (rV (bR (k:=.u32) (a:=(((r*4294967296+x.getD n default)/d:Nat):Int)) (c:=(((r*4294967296+x.getD n default)/d:Nat):Int)) dB bN rfl (aCn (by have h8:=hll.1;generalize (r*4294967296+x.getD n default)/d=q9 at*;omega))) (rV (aJ (i:=(m:Int)-1) bE bM rfl rfl oM oM) ?_))
  refine RL.runs rfl rfl (oN (g:=(gN .u32)) (vv:=(.int .u32 ((((r*4294967296+x.getD n default)/d:Nat):Int)))) (u:=(r*4294967296+x.getD n default)/d) (i:=(m:Int)-1) bM rfl rfl rfl rfl rfl hb9 (n) oM oM) ?_
  rintro w25 ⟨ha26,hx27⟩
  replace hE:=hE.nb hx27 ge_b7
  replace hb9:=ha26
  refine RL.nil (aV (mV (v:=(.int .u64 ((((r*4294967296+x.getD n default):Nat):Int)))) rfl (mV (v:=(.int .u32 (d:Int))) ((hoff16 1 rfl).trans ((hF13 1).trans (hF0 1))) (rV (bR (k:=.u64) (a:=(d:Int)) (c:=(d:Int)) bN dB rfl (cX oM)) (rV (sC (k:=.u64) (a:=(((r*4294967296+x.getD n default):Nat):Int)) (b:=(d:Int)) (c:=(((r*4294967296+x.getD n default)%d:Nat):Int)) rfl rfl oM (aIx _ _)) ?_)))))
  refine aS (v:=(.int .u64 ((((r*4294967296+x.getD n default)%d:Nat):Int)))) rfl (RL.nil (aV (mV hs17 (rV (eH (k:=.i64) (a:=(m:Int)-1) (b:=1) (c:=((m:Int)-1)-1) rfl rfl (dJ oM)) (aS (v:=(iv (((m:Int)-1)-1))) rfl ?_)))))
  refine RL.nil ?_
  replace hx:=hx.tr (Sm.exc hx27 (λ_ _ _ _ hd=>absurd hd.2 (Nat.not_lt_of_le ge_b7)))
  refine⟨(n,(r*4294967296+x.getD n default)%d,(r*4294967296+x.getD n default)/d::Q),⟨?_,?_,?_,?_,?_,?_,?_,?_,?_,?_,?_⟩,?_⟩
  ·exact(by repeat (first|exact hoff16|refine Off.st ?_ dC _))
  ·first|rfl|exact aQ oM|exact aD (by simp)
  ·first|rfl|exact aQ oM|exact aD (by simp)
  ·omega
  ·exact Nat.mod_lt _ oM
  ·rw[List.length_cons];omega
  ·exact λz hz=>by rcases List.mem_cons.1 hz with rfl|hz;exact hll.1;exact hQm z hz
  ·exact aJb oM oM (by rw[<-hmn];exact hv)
  ·rw[hmn,bGp] at hb9;exact hb9
  ·exact hx
  ·exact hE
  (try dsimp only)
  omega
 refine fB ?_
 refine bB ?_
 have hm0:m=0:=by omega
 rw[hm0,List.replicate_zero,List.nil_append] at hb9
 rw[hm0,List.drop_zero] at hv
 have hfin:=xP (n:=val x) (b:=d) hv hr
 refine aV (mV (v:=(.slice (some ⟨b7,0,none⟩) (x.length) (x.length))) ((hoff16 4 rfl).trans (hF13 4)) ?_)
 refine cL eN (fW (hb9.sc (D:=(λb T=>w.heap.size<=b∧T=131)) (Nat.le_refl _) oM ⟨ge_b7,rfl⟩) hQm (by first|omega|(simp;done)|(simp;omega))) rfl ?_
 rintro vr29 _ ⟨hr30,rfl⟩
 have hlv31:=bJ (x:=Q) hQm
 refine mV hs18 ?_
 refine cL kL (kM oM) rfl ?_
 rintro vr34 w32 ⟨hr35,he33⟩
 replace hr35:=hr35.fr hE
 replace hE:=hE.nx he33
 have hlv36:=kK (n:=r) oM
 refine aS (v:=vr29) rfl (aS (v:=vr34) rfl (RL.nil ?_))
 refine cE ?_
 refine⟨[vr29,vr34],⟨rfl,⟨rfl,trivial⟩⟩,?_⟩
 replace hr30:=hr30.tr (Sm.ext he33)
 have h1:=hr30
 have h2:=hr35
 rw[hfin.1] at h1
 rw[hfin.2] at h2
 exact⟨⟨_,_,rfl,h1,h2⟩,hE⟩
theorem aLo {P2 P:List Nat} {t k n:Nat} (h2:P2.length=n) (hP:P.length=n) (hk:k=n):(P2++(P++[t]).drop k).getD n default=t:=by
 subst hk
 rw[tA h2,List.getD_eq_getElem?_getD,List.getElem?_append_right oM,hP,Nat.sub_self];rfl
theorem aJc {a:Nat} (h:a+1=4294967296):IntKind.u32.wrap ((a:Int)+1)=((0:Nat):Int):=by
 rw[show(a:Int)+1=4294967296 by omega];decide
theorem bAa {w:World} {b cap:Nat} {pre post:List Value} {u y:List Nat} {Dy:Nat->TypeId->Prop} {vy:Value} (hu:Ag (gN .u32) w b 131 pre u post (y.length+1)) (hy:Sg (gN .u32) Dy w vy y) (hDy:∀T,¬Dy b T) (lmu:Lm u) (lmy:Lm y) (hn2:2<=y.length) (hnb:y.length<=1099511627776) (htop:2147483648<=y.getD (y.length-1) default) (hq:val u<val y*4294967296):
 Calls Tryz.prog 175 #[(.slice (some ⟨b,pre.length,none⟩) (y.length+1) (cap)),vy] w λe w'=>∃v,e= .returned v∧v= .int .u32 ((val u/val y:Nat):Int)∧(∃u',Ag (gN .u32) w' b 131 pre u' post (y.length+1)∧Lm u'∧val u'=val u%val y)∧Exc b w w':=by
 have hX:Exc b w w:=Exc.of_ext (Ext.refl _)
 have hul:=hu.2
 have hK:=bGq hul rfl hn2 lmu lmy htop hq
 obtain⟨un,hun⟩:∃z,z=u.getD y.length default:=⟨_,rfl⟩
 obtain⟨un1,hun1⟩:∃z,z=u.getD (y.length-1) default:=⟨_,rfl⟩
 obtain⟨u2,hu2⟩:∃z,z=u.getD (y.length-2) default:=⟨_,rfl⟩
 obtain⟨v1,hv1⟩:∃z,z=y.getD (y.length-1) default:=⟨_,rfl⟩
 obtain⟨v2,hv2⟩:∃z,z=y.getD (y.length-2) default:=⟨_,rfl⟩
 have bun:=lmu.at (k:=y.length) oM
 have bun1:=lmu.at (k:=y.length-1) oM
 have bu2:=lmu.at (k:=y.length-2) oM
 have bv1:=lmy.at (k:=y.length-1) oM
 have bv2:=lmy.at (k:=y.length-2) oM
 rw[<-hun,<-hun1,<-hu2,<-hv1,<-hv2] at hK
 rw[<-hun] at bun
 rw[<-hun1] at bun1
 rw[<-hu2] at bu2
 rw[<-hv1] at bv1 htop
 rw[<-hv2] at bv2
 refine bH (n:=170) (rs:=[.tmp 4]) func175 rfl rfl rfl bL ?_
 refine cV λF0 hF0=>?_
 refine wsr (aS (v:=(.int .u32 0)) rfl (RL.nil (wsr (mV (v:=vy) (hF0 1) ?_))))
 obtain⟨A1,c2,hv3,hc4,hc5⟩:=hy.len
 refine rV (cK bE hv3) (aS (v:=(iv (y.length:Nat))) rfl (RL.nil (bB ?_)))
 refine fI fV λw6 he7=>?_
 have he7z:=he7.size
 replace hu:=hu.ext he7
 replace hy:=hy.tr (Sm.ext he7)
 replace hX:=hX.trans (Exc.of_ext he7)
 refine ra 0 rfl (λ_=>aG (v:=(.slice (some ⟨b,pre.length,none⟩) (y.length+1) (cap))) (hF0 0)) ?_
 refine ra 1 rfl (λ_=>aG (v:=(iv (y.length:Nat))) rfl) ?_
 refine ra 2 rfl (λ_=>aJ (i:=((y.length:Nat):Int)) bE bM rfl rfl oM oM) ?_
 have hc8:=hu.cell (i:=((y.length:Nat):Int)) (y.length) oM oM
 rw[show u.getD (y.length) default=un from hun.symm] at hc8
 refine RA.rd 3 rfl kR rfl rfl rfl dC (Ext.refl _) (λu hu=>aY (v:=(.int .u32 (un:Int))) bN dR rfl (bT hu hc8)) ?_
 refine ra 4 rfl (λ_=>bR (k:=.u64) (a:=(un:Int)) (c:=(un:Int)) bN dB rfl (cX oM)) ?_
 refine ra 5 rfl (λ_=>pL (k:=.u64) (a:=(un:Int)) (b:=32) (c:=((un*4294967296:Nat):Int)) rfl rfl dC (shl32 bun)) ?_
 refine ra 6 rfl (λ_=>aG (v:=(.slice (some ⟨b,pre.length,none⟩) (y.length+1) (cap))) (hF0 0)) ?_
 refine ra 7 rfl (λ_=>aG (v:=(iv (y.length:Nat))) rfl) ?_
 refine ra 8 rfl (λ_=>eH (k:=.i64) (a:=((y.length:Nat):Int)) (b:=1) (c:=((y.length:Nat):Int)-1) rfl rfl (dJ oM)) ?_
 refine ra 9 rfl (λ_=>aJ (i:=((y.length:Nat):Int)-1) bE bM rfl rfl oM oM) ?_
 have hc9:=hu.cell (i:=((y.length:Nat):Int)-1) (y.length-1) oM oM
 rw[show u.getD (y.length-1) default=un1 from hun1.symm] at hc9
 refine RA.rd 10 rfl kR rfl rfl rfl dC (Ext.refl _) (λu hu=>aY (v:=(.int .u32 (un1:Int))) bN dR rfl (bT hu hc9)) ?_
 refine ra 11 rfl (λ_=>bR (k:=.u64) (a:=(un1:Int)) (c:=(un1:Int)) bN dB rfl (cX oM)) ?_
 refine ra 12 rfl (λ_=>xM (k:=.u64) (a:=((un*4294967296:Nat):Int)) (b:=(un1:Int)) (c:=(((un*4294967296+un1):Nat):Int)) rfl rfl (or32 bun bun1)) ?_
 refine ra 13 rfl (λ_=>bS (v:=(.int .u64 ((((un*4294967296+un1):Nat):Int)))) rfl) ?_
 refine RA.done kR ?_
 refine bB ?_
 refine fI fV λw10 he11=>?_
 have he11z:=he11.size
 replace hu:=hu.ext he11
 replace hy:=hy.tr (Sm.ext he11)
 replace hX:=hX.trans (Exc.of_ext he11)
 refine ra 0 rfl (λ_=>aG (v:=(.int .u64 ((((un*4294967296+un1):Nat):Int)))) rfl) ?_
 refine ra 1 rfl (λ_=>aG (v:=vy) (hF0 1)) ?_
 refine ra 2 rfl (λ_=>aG (v:=(iv (y.length:Nat))) rfl) ?_
 refine ra 3 rfl (λ_=>eH (k:=.i64) (a:=((y.length:Nat):Int)) (b:=1) (c:=((y.length:Nat):Int)-1) rfl rfl (dJ oM)) ?_
 obtain⟨b12,o13,c14,hv15,hc16⟩:=hy.ix (i:=((y.length:Nat):Int)-1) (y.length-1) oM oM
 rw[show y.getD (y.length-1) default=v1 from hv1.symm] at hc16
 refine ra 4 rfl (λ_=>aJ (i:=((y.length:Nat):Int)-1) bE bM hv15 rfl oM oM) ?_
 refine RA.rd 5 rfl kR rfl rfl rfl dC (Ext.refl _) (λu hu=>aY (v:=(.int .u32 (v1:Int))) bN dR rfl (bT hu hc16)) ?_
 refine ra 6 rfl (λ_=>bR (k:=.u64) (a:=(v1:Int)) (c:=(v1:Int)) bN dB rfl (cX oM)) ?_
 refine ra 7 rfl (λ_=>pJ (k:=.u64) (a:=(((un*4294967296+un1):Nat):Int)) (b:=(v1:Int)) (c:=(((un*4294967296+un1)/v1:Nat):Int)) rfl rfl oM (quoN oM)) ?_
 refine ra 8 rfl (λ_=>aG (v:=(.int .u64 ((((un*4294967296+un1):Nat):Int)))) rfl) ?_
 refine ra 9 rfl (λ_=>aG (v:=vy) (hF0 1)) ?_
 refine ra 10 rfl (λ_=>aG (v:=(iv (y.length:Nat))) rfl) ?_
 refine ra 11 rfl (λ_=>eH (k:=.i64) (a:=((y.length:Nat):Int)) (b:=1) (c:=((y.length:Nat):Int)-1) rfl rfl (dJ oM)) ?_
 obtain⟨b17,o18,c19,hv20,hc21⟩:=hy.ix (i:=((y.length:Nat):Int)-1) (y.length-1) oM oM
 rw[show y.getD (y.length-1) default=v1 from hv1.symm] at hc21
 refine ra 12 rfl (λ_=>aJ (i:=((y.length:Nat):Int)-1) bE bM hv20 rfl oM oM) ?_
 refine RA.rd 13 rfl kR rfl rfl rfl dC (Ext.refl _) (λu hu=>aY (v:=(.int .u32 (v1:Int))) bN dR rfl (bT hu hc21)) ?_
 refine ra 14 rfl (λ_=>bR (k:=.u64) (a:=(v1:Int)) (c:=(v1:Int)) bN dB rfl (cX oM)) ?_
 refine ra 15 rfl (λ_=>sC (k:=.u64) (a:=(((un*4294967296+un1):Nat):Int)) (b:=(v1:Int)) (c:=(((un*4294967296+un1)%v1:Nat):Int)) rfl rfl oM (aIx _ _)) ?_
 refine ra 16 rfl (λ_=>bS (v:=(.int .u64 ((((un*4294967296+un1)/v1:Nat):Int)))) rfl) ?_
 refine ra 17 rfl (λ_=>bS (v:=(.int .u64 ((((un*4294967296+un1)%v1:Nat):Int)))) rfl) ?_
 refine RA.done kR ?_
 refine cV λF22 hF23=>?_
 refine oI (λfl wl=>∃dq:Nat,Off (rg 7 2 (rg 48 36 [])) F22 fl∧fl 7=(.int .u64 (dq:Int))∧(val u/val y<=dq)∧(dq<=val u/val y+1)∧(dq<4294967296)∧(Ag (gN .u32) wl b 131 pre u post (y.length+1))∧(Sg (gN .u32) Dy wl vy y)∧(Exc b w wl)) ?_ ?_
 ·have hoff24:=Off.refl (rg 7 2 (rg 48 36 [])) F22
  refine cF ?_
  refine cV λF25 hF26=>?_
  refine fU (σ:=Nat×Nat) (λ(s:Nat×Nat) fl wl=>match s with|(dg,rs)=>Off (rg 7 2 (rg 48 36 [])) F25 fl∧fl 7=(.int .u64 (dg:Int))∧fl 8=(.int .u64 (rs:Int))∧(Kn (val u) (val y) (un*4294967296+un1) v1 dg rs)∧(rs<4294967296)∧(Ag (gN .u32) wl b 131 pre u post (y.length+1))∧(Sg (gN .u32) Dy wl vy y)∧(Exc b w wl)) (λ(s:Nat×Nat)=>match s with|(dg,rs)=>dg) ((un*4294967296+un1)/v1,(un*4294967296+un1)%v1) ?_ ?_
  ·exact⟨Off.refl _ _,(hF26 7).trans (((hF23 7)).trans rfl),(hF26 8).trans (((hF23 8)).trans rfl),hK.start,Nat.lt_trans (Nat.mod_lt _ oM) bv1,hu,hy,hX⟩
  clear hu hy hX
  rintro⟨dg,rs⟩ f27 w28 ⟨hoff29,hs30,hs31,hKn,hrs,hu,hy,hX⟩
  refine bB (bB ?_)
  refine fI fV λw32 he33=>?_
  have he33z:=he33.size
  replace hu:=hu.ext he33
  replace hy:=hy.tr (Sm.ext he33)
  replace hX:=hX.trans (Exc.of_ext he33)
  refine ra 0 rfl (λ_=>aG (v:=(.int .u64 (dg:Int))) hs30) ?_
  refine ra 1 rfl (λ_=>jM (k:=.u64) (a:=(dg:Int)) (b:=32) (c:=((dg/4294967296:Nat):Int)) rfl rfl dC (shr32 _)) ?_
  refine ra 2 rfl (λ_=>mI (k:=.u64) (a:=((dg/4294967296:Nat):Int)) (b:=0) rfl rfl) ?_
  refine ra 3 rfl (λ_=>aG (v:=(bd (((dg/4294967296:Nat):Int)≠0))) rfl) ?_
  rcases bD (((dg/4294967296:Nat):Int)≠0) with ⟨hb34,hb34p⟩|⟨hb34,hb34p⟩
  ·have hdB:4294967296<=dg:=by have:=hb34p;omega
   refine RA.gno 4 rfl kR rfl rfl (.inl (aD hb34)) rfl dC ?_
   refine RA.gno 5 rfl kR rfl rfl (.inl (aD hb34)) rfl dC ?_
   refine RA.gno 6 rfl kR rfl rfl (.inl (aD hb34)) rfl dC ?_
   refine RA.gno 7 rfl kR rfl rfl (.inl (aD hb34)) rfl dC ?_
   refine RA.gno 8 rfl kR rfl rfl (.inl (aD hb34)) rfl dC ?_
   refine RA.gno 9 rfl kR rfl rfl (.inl (aD hb34)) rfl dC ?_
   refine RA.gno 10 rfl kR rfl rfl (.inl (aD hb34)) rfl dC ?_
   refine RA.gno 11 rfl kR rfl rfl (.inl (aD hb34)) rfl dC ?_
   refine RA.gno 12 rfl kR rfl rfl (.inl (aD hb34)) rfl dC ?_
   refine RA.gno 13 rfl kR rfl rfl (.inl (aD hb34)) rfl dC ?_
   refine RA.gno 14 rfl kR rfl rfl (.inl (aD hb34)) rfl dC ?_
   refine RA.gno 15 rfl kR rfl rfl (.inl (aD hb34)) rfl dC ?_
   refine RA.gno 16 rfl kR rfl rfl (.inl (aD hb34)) rfl dC ?_
   refine RA.gno 17 rfl kR rfl rfl (.inl (aD hb34)) rfl dC ?_
   refine RA.gno 18 rfl kR rfl rfl (.inl (aD hb34)) rfl dC ?_
   refine RA.gno 19 rfl kR rfl rfl (.inl (aD hb34)) rfl dC ?_
   refine RA.gno 20 rfl kR rfl rfl (.inl (aD hb34)) rfl dC ?_
   refine RA.gno 21 rfl kR rfl rfl (.inl (aD hb34)) rfl dC ?_
   refine ra 22 rfl (λ_=>dV (v:=(.bool true)) (aD hb34) rfl) ?_
   refine RA.done kR ?_
   refine lK rfl ?_
   refine bW ?_
   refine cF ?_
   refine bB ?_
   have hcond:4294967296<=dg∨rs*4294967296+u2<dg*v2:=by first|exact .inl oM|exact .inr oM
   have hst:=hK.step hKn hcond
   have hle:=hKn.le
   have hge1:=hst.2
   refine aV (mV hs30 (rV (eH (k:=.u64) (a:=(dg:Int)) (b:=1) (c:=((dg-1:Nat):Int)) rfl rfl ((cX oM).trans oM)) (aS (v:=(.int .u64 (((dg-1:Nat):Int)))) rfl (RL.nil (wsr ?_)))))
   refine mV hs31 (mV (v:=vy) ((hoff29 1 rfl).trans ((hF26 1).trans ((hF23 1).trans (hF0 1)))) (mV (v:=(iv (y.length:Nat))) ((hoff29 5 rfl).trans ((hF26 5).trans (hF23 5))) (rV (eH (k:=.i64) (a:=((y.length:Nat):Int)) (b:=1) (c:=((y.length:Nat):Int)-1) rfl rfl (dJ oM)) ?_)))
   obtain⟨b35,o36,c37,hv38,hc39⟩:=hy.ix (i:=((y.length:Nat):Int)-1) (y.length-1) oM oM
   rw[show y.getD (y.length-1) default=v1 from hv1.symm] at hc39
   refine rV (aJ (i:=((y.length:Nat):Int)-1) bE bM hv38 rfl oM oM) (rV (aY (v:=(.int .u32 (v1:Int))) bN dR rfl hc39) (rV (bR (k:=.u64) (a:=(v1:Int)) (c:=(v1:Int)) bN dB rfl (cX oM)) (rV (dP (k:=.u64) (a:=(rs:Int)) (b:=(v1:Int)) (c:=((rs+v1:Nat):Int)) rfl rfl ((cX oM).trans oM)) (aS (v:=(.int .u64 (((rs+v1:Nat):Int)))) rfl (RL.nil ?_)))))
   refine wsr (mV (v:=(.int .u64 (((rs+v1:Nat):Int)))) rfl (rV (jM (k:=.u64) (a:=((rs+v1:Nat):Int)) (b:=32) (c:=(((rs+v1)/4294967296:Nat):Int)) rfl rfl dC (shr32 _)) (rV (mI (k:=.u64) (a:=(((rs+v1)/4294967296:Nat):Int)) (b:=0) rfl rfl) (RL.nil ?_))))
   refine wcD (p:=(((rs+v1)/4294967296:Nat):Int)≠0) rfl (λhb40 hb40p=>?_) (λhb40 hb40p=>?_)
   ·have hbr:=hb40p
    refine fB ?_
    refine⟨dg-1,?_,?_,?_,?_,?_,?_,?_,?_⟩
    ·exact(by repeat (first|exact hoff24|refine Off.st ?_ dC _|refine Off.via hoff29 dC ?_|refine Off.eq hF26 ?_))
    ·rfl
    ·first|exact hKn.ge|exact hst.1.ge
    ·first|exact hK.exit hKn oM oM|exact Nat.le_succ_of_le (hK.brk hst.1 (by have:=hKn.le;omega) oM)
    ·first|omega|(have h1:=hK.brk hst.1 (by have:=hKn.le;omega) oM;have h2:=hK.lt;omega)
    ·exact hu
    ·exact hy
    exact hX
   have hbr:=hb40p
   refine bW ?_
   refine⟨(dg-1,rs+v1),⟨?_,?_,?_,?_,?_,?_,?_,?_⟩,?_⟩
   ·exact(by repeat (first|exact hoff29|refine Off.st ?_ dC _))
   ·first|rfl|exact aQ oM|exact aD (by simp)
   ·first|rfl|exact aQ oM|exact aD (by simp)
   ·exact hst.1
   ·omega
   ·exact hu
   ·exact hy
   ·exact hX
   (try dsimp only)
   have:=hst.2
   omega
  have hdB:dg<4294967296:=by have:=hb34p;omega
  have hmul:=mS hdB bv2
  obtain⟨pm,hpm⟩:∃z,z=dg*v2:=⟨_,rfl⟩
  rw[<-hpm] at hmul
  refine RA.gtake 4 rfl kR rfl rfl (aD hb34) rfl dC (λ_=>aG (v:=(.int .u64 (dg:Int))) hs30) ?_
  refine RA.gtake 5 rfl kR rfl rfl (aD hb34) rfl dC (λ_=>aG (v:=vy) ((hoff29 1 rfl).trans ((hF26 1).trans ((hF23 1).trans (hF0 1))))) ?_
  refine RA.gtake 6 rfl kR rfl rfl (aD hb34) rfl dC (λ_=>aG (v:=(iv (y.length:Nat))) ((hoff29 5 rfl).trans ((hF26 5).trans (hF23 5)))) ?_
  refine RA.gtake 7 rfl kR rfl rfl (aD hb34) rfl dC (λ_=>eH (k:=.i64) (a:=((y.length:Nat):Int)) (b:=2) (c:=((y.length:Nat):Int)-2) rfl rfl (dJ oM)) ?_
  obtain⟨b41,o42,c43,hv44,hc45⟩:=hy.ix (i:=((y.length:Nat):Int)-2) (y.length-2) oM oM
  rw[show y.getD (y.length-2) default=v2 from hv2.symm] at hc45
  refine RA.gtake 8 rfl kR rfl rfl (aD hb34) rfl dC (λ_=>aJ (i:=((y.length:Nat):Int)-2) bE bM hv44 rfl oM oM) ?_
  refine RA.grd 9 rfl kR rfl rfl rfl (aD hb34) rfl dC (Ext.refl _) (λu hu=>aY (v:=(.int .u32 (v2:Int))) bN dR rfl (bT hu hc45)) ?_
  refine RA.gtake 10 rfl kR rfl rfl (aD hb34) rfl dC (λ_=>bR (k:=.u64) (a:=(v2:Int)) (c:=(v2:Int)) bN dB rfl (cX oM)) ?_
  refine RA.gtake 11 rfl kR rfl rfl (aD hb34) rfl dC (λ_=>jX (k:=.u64) (a:=(dg:Int)) (b:=(v2:Int)) (c:=((dg*v2:Nat):Int)) rfl rfl ((cX (by rw[<-Int.natCast_mul,<-hpm];omega)).trans (by rw[Int.natCast_mul]))) ?_
  refine RA.gtake 12 rfl kR rfl rfl (aD hb34) rfl dC (λ_=>aG (v:=(.int .u64 (rs:Int))) hs31) ?_
  refine RA.gtake 13 rfl kR rfl rfl (aD hb34) rfl dC (λ_=>pL (k:=.u64) (a:=(rs:Int)) (b:=32) (c:=((rs*4294967296:Nat):Int)) rfl rfl dC (shl32 hrs)) ?_
  refine RA.gtake 14 rfl kR rfl rfl (aD hb34) rfl dC (λ_=>aG (v:=(.slice (some ⟨b,pre.length,none⟩) (y.length+1) (cap))) ((hoff29 0 rfl).trans ((hF26 0).trans ((hF23 0).trans (hF0 0))))) ?_
  refine RA.gtake 15 rfl kR rfl rfl (aD hb34) rfl dC (λ_=>aG (v:=(iv (y.length:Nat))) ((hoff29 5 rfl).trans ((hF26 5).trans (hF23 5)))) ?_
  refine RA.gtake 16 rfl kR rfl rfl (aD hb34) rfl dC (λ_=>eH (k:=.i64) (a:=((y.length:Nat):Int)) (b:=2) (c:=((y.length:Nat):Int)-2) rfl rfl (dJ oM)) ?_
  refine RA.gtake 17 rfl kR rfl rfl (aD hb34) rfl dC (λ_=>aJ (i:=((y.length:Nat):Int)-2) bE bM rfl rfl oM oM) ?_
  have hc46:=hu.cell (i:=((y.length:Nat):Int)-2) (y.length-2) oM oM
  rw[show u.getD (y.length-2) default=u2 from hu2.symm] at hc46
  refine RA.grd 18 rfl kR rfl rfl rfl (aD hb34) rfl dC (Ext.refl _) (λu hu=>aY (v:=(.int .u32 (u2:Int))) bN dR rfl (bT hu hc46)) ?_
  refine RA.gtake 19 rfl kR rfl rfl (aD hb34) rfl dC (λ_=>bR (k:=.u64) (a:=(u2:Int)) (c:=(u2:Int)) bN dB rfl (cX oM)) ?_
  refine RA.gtake 20 rfl kR rfl rfl (aD hb34) rfl dC (λ_=>xM (k:=.u64) (a:=((rs*4294967296:Nat):Int)) (b:=(u2:Int)) (c:=((rs*4294967296+u2:Nat):Int)) rfl rfl (or32 hrs bu2)) ?_
  refine RA.gtake 21 rfl kR rfl rfl (aD hb34) rfl dC (λ_=>oL (k:=.u64) (a:=((dg*v2:Nat):Int)) (b:=((rs*4294967296+u2:Nat):Int)) rfl rfl) ?_
  refine ra 22 rfl (λ_=>eP (v:=(bd (((rs*4294967296+u2:Nat):Int)<((dg*v2:Nat):Int)))) (aD hb34) rfl) ?_
  refine RA.done kR ?_
  refine wcD (p:=((rs*4294967296+u2:Nat):Int)<((dg*v2:Nat):Int)) rfl (λhb47 hb47p=>?_) (λhb47 hb47p=>?_)
  ·have hlt:=hb47p
   refine bW ?_
   refine cF ?_
   refine bB ?_
   have hcond:4294967296<=dg∨rs*4294967296+u2<dg*v2:=by first|exact .inl oM|exact .inr oM
   have hst:=hK.step hKn hcond
   have hle:=hKn.le
   have hge1:=hst.2
   refine aV (mV hs30 (rV (eH (k:=.u64) (a:=(dg:Int)) (b:=1) (c:=((dg-1:Nat):Int)) rfl rfl ((cX oM).trans oM)) (aS (v:=(.int .u64 (((dg-1:Nat):Int)))) rfl (RL.nil (wsr ?_)))))
   refine mV hs31 (mV (v:=vy) ((hoff29 1 rfl).trans ((hF26 1).trans ((hF23 1).trans (hF0 1)))) (mV (v:=(iv (y.length:Nat))) ((hoff29 5 rfl).trans ((hF26 5).trans (hF23 5))) (rV (eH (k:=.i64) (a:=((y.length:Nat):Int)) (b:=1) (c:=((y.length:Nat):Int)-1) rfl rfl (dJ oM)) ?_)))
   obtain⟨b48,o49,c50,hv51,hc52⟩:=hy.ix (i:=((y.length:Nat):Int)-1) (y.length-1) oM oM
   rw[show y.getD (y.length-1) default=v1 from hv1.symm] at hc52
   refine rV (aJ (i:=((y.length:Nat):Int)-1) bE bM hv51 rfl oM oM) (rV (aY (v:=(.int .u32 (v1:Int))) bN dR rfl hc52) (rV (bR (k:=.u64) (a:=(v1:Int)) (c:=(v1:Int)) bN dB rfl (cX oM)) (rV (dP (k:=.u64) (a:=(rs:Int)) (b:=(v1:Int)) (c:=((rs+v1:Nat):Int)) rfl rfl ((cX oM).trans oM)) (aS (v:=(.int .u64 (((rs+v1:Nat):Int)))) rfl (RL.nil ?_)))))
   refine wsr (mV (v:=(.int .u64 (((rs+v1:Nat):Int)))) rfl (rV (jM (k:=.u64) (a:=((rs+v1:Nat):Int)) (b:=32) (c:=(((rs+v1)/4294967296:Nat):Int)) rfl rfl dC (shr32 _)) (rV (mI (k:=.u64) (a:=(((rs+v1)/4294967296:Nat):Int)) (b:=0) rfl rfl) (RL.nil ?_))))
   refine wcD (p:=(((rs+v1)/4294967296:Nat):Int)≠0) rfl (λhb53 hb53p=>?_) (λhb53 hb53p=>?_)
   ·have hbr:=hb53p
    refine fB ?_
    refine⟨dg-1,?_,?_,?_,?_,?_,?_,?_,?_⟩
    ·exact(by repeat (first|exact hoff24|refine Off.st ?_ dC _|refine Off.via hoff29 dC ?_|refine Off.eq hF26 ?_))
    ·rfl
    ·first|exact hKn.ge|exact hst.1.ge
    ·first|exact hK.exit hKn oM oM|exact Nat.le_succ_of_le (hK.brk hst.1 (by have:=hKn.le;omega) oM)
    ·first|omega|(have h1:=hK.brk hst.1 (by have:=hKn.le;omega) oM;have h2:=hK.lt;omega)
    ·exact hu
    ·exact hy
    exact hX
   have hbr:=hb53p
   refine bW ?_
   refine⟨(dg-1,rs+v1),⟨?_,?_,?_,?_,?_,?_,?_,?_⟩,?_⟩
   ·exact(by repeat (first|exact hoff29|refine Off.st ?_ dC _))
   ·first|rfl|exact aQ oM|exact aD (by simp)
   ·first|rfl|exact aQ oM|exact aD (by simp)
   ·exact hst.1
   ·omega
   ·exact hu
   ·exact hy
   ·exact hX
   (try dsimp only)
   have:=hst.2
   omega
  have hlt:=hb47p
  refine fB ?_
  refine⟨dg,?_,?_,?_,?_,?_,?_,?_,?_⟩
  ·exact(by repeat (first|exact hoff24|refine Off.st ?_ dC _|refine Off.via hoff29 dC ?_|refine Off.eq hF26 ?_))
  ·refine(hs30).trans ?_
   rfl
  ·first|exact hKn.ge|exact hst.1.ge
  ·first|exact hK.exit hKn oM oM|exact Nat.le_succ_of_le (hK.brk hst.1 (by have:=hKn.le;omega) oM)
  ·first|omega|(have h1:=hK.brk hst.1 (by have:=hKn.le;omega) oM;have h2:=hK.lt;omega)
  ·exact hu
  ·exact hy
  exact hX
 clear hu hy hX
 rintro f54 w55 ⟨dq,hoff56,hs57,hq1,hq2,hdb,hu,hy,hX⟩
 refine wsr (aS (v:=(.int .u64 0)) rfl (RL.nil (bB (wsr (mV (v:=vy) ((hoff56 1 rfl).trans ((hF23 1).trans (hF0 1))) ?_)))))
 refine rV (cK bE hv3) (mV (v:=(iv 0)) rfl (RL.nil ?_))
 refine cF ?_
 refine cV λF58 hF59=>?_
 refine fU (σ:=Nat×Nat×List Nat) (λ(s:Nat×Nat×List Nat) fl wl=>match s with|(k,c,P)=>Off (rg 9 5 (rg 86 31 [])) F58 fl∧fl 86=(iv k)∧fl 9=(.int .u64 (c:Int))∧(k<=y.length)∧(P.length=k)∧(Lm P)∧(c<4294967296)∧(val P+dq*val (y.take k)=val (u.take k)+4294967296^k*c)∧(Ag (gN .u32) wl b 131 pre (P++u.drop k) post (y.length+1))∧(Sg (gN .u32) Dy wl vy y)∧(Exc b w wl)) (λ(s:Nat×Nat×List Nat)=>match s with|(k,c,P)=>y.length-k) (0,0,[]) ?_ ?_
 ·exact⟨Off.refl _ _,(hF59 86).trans (rfl),(hF59 9).trans (rfl),Nat.zero_le _,rfl,Lm.nil,by decide,(by simp[val]),hu,hy,hX⟩
 clear hu hy hX
 rintro⟨k,c,P⟩ f60 w61 ⟨hoff62,hs63,hs64,hk,hP,hLm,hc,hms,hu,hy,hX⟩
 refine wsr (rV (eQ (k:=.i64) (a:=(k:Int)) (b:=((y.length:Nat):Int)) hs63 ((hoff62 85 rfl).trans (hF59 85))) (RL.nil (bB ?_)))
 refine wcD (p:=(k:Int)<((y.length:Nat):Int)) rfl (λhb65 hb65p=>?_) (λhb65 hb65p=>?_)
 ·refine bW ?_
  refine bB ?_
  refine cF ?_
  refine bB ?_
  have hkl:k<y.length:=by omega
  have huk:=lmu.at (k:=k) oM
  have hvk:=lmy.at hkl
  have hmc:=aLi (u:=u.getD k default) hdb hvk hc huk
  obtain⟨pm,hpm⟩:∃z,z=dq*y.getD k default:=⟨_,rfl⟩
  have hmc1:=hmc.1
  have hlm2:=mS hdb hvk
  refine aV (mV hs63 ?_)
  obtain⟨b66,o67,c68,hv69,hc70⟩:=hy.ix (i:=(k:Int)) (k) oM oM
  refine rV (aJ (i:=(k:Int)) bE bM ((((hoff62 84 rfl).trans (hF59 84))).trans hv69) hs63 oM oM) (rV (aY (v:=(.int .u32 (((y.getD (k) default:Nat):Int)))) bN dR rfl hc70) (aS (v:=(iv k)) rfl (aS (v:=(.int .u32 (((y.getD (k) default:Nat):Int)))) rfl (RL.nil (wsr ?_)))))
  refine mV (v:=(.int .u64 (dq:Int))) ((hoff62 7 rfl).trans ((hF59 7).trans hs57)) (mV (v:=(.int .u32 (((y.getD (k) default:Nat):Int)))) rfl (rV (bR (k:=.u64) (a:=((y.getD (k) default:Nat):Int)) (c:=((y.getD (k) default:Nat):Int)) bN dB rfl (cX oM)) (rV (jX (k:=.u64) (a:=(dq:Int)) (b:=((y.getD (k) default:Nat):Int)) (c:=((dq*y.getD k default:Nat):Int)) rfl rfl ((cX (by rw[<-Int.natCast_mul];omega)).trans (by rw[Int.natCast_mul]))) (mV hs64 (rV (dP (k:=.u64) (a:=((dq*y.getD k default:Nat):Int)) (b:=(c:Int)) (c:=(((dq*y.getD k default+c):Nat):Int)) rfl rfl ((cX oM).trans oM)) ?_)))))
  refine aS (v:=(.int .u64 ((((dq*y.getD k default+c):Nat):Int)))) rfl (RL.nil (wsr (mV (v:=(.slice (some ⟨b,pre.length,none⟩) (y.length+1) (cap))) ((hoff62 0 rfl).trans ((hF59 0).trans ((hoff56 0 rfl).trans ((hF23 0).trans (hF0 0))))) (mV (v:=(iv k)) rfl (rV (aJ (i:=(k:Int)) bE bM rfl rfl oM oM) ?_)))))
  have hc71:=hu.cell (i:=(k:Int)) (k) oM oM
  rw[show(P++u.drop k).getD (k) default=u.getD k default from (tA hP)] at hc71
  refine rV (aY (v:=(.int .u32 (((u.getD k default:Nat):Int)))) bN dR rfl hc71) (rV (bR (k:=.u64) (a:=((u.getD k default:Nat):Int)) (c:=((u.getD k default:Nat):Int)) bN dB rfl (cX oM)) (mV (v:=(.int .u64 ((((dq*y.getD k default+c):Nat):Int)))) rfl (rV (bR (k:=.u32) (a:=(((dq*y.getD k default+c):Nat):Int)) (c:=(((dq*y.getD k default+c)%4294967296:Nat):Int)) dB bN rfl (cu32 _)) (rV (bR (k:=.u64) (a:=(((dq*y.getD k default+c)%4294967296:Nat):Int)) (c:=(((dq*y.getD k default+c)%4294967296:Nat):Int)) bN dB rfl (cX oM)) (rV (eH (k:=.u64) (a:=((u.getD k default:Nat):Int)) (b:=(((dq*y.getD k default+c)%4294967296:Nat):Int)) (c:=(((sb (u.getD k default) ((dq*y.getD k default+c)%4294967296)):Nat):Int)) rfl rfl (wsb oM oM)) ?_)))))
  refine aS (v:=(.int .u64 ((((sb (u.getD k default) ((dq*y.getD k default+c)%4294967296)):Nat):Int)))) rfl (RL.nil (wsr (mV (v:=(.slice (some ⟨b,pre.length,none⟩) (y.length+1) (cap))) ((hoff62 0 rfl).trans ((hF59 0).trans ((hoff56 0 rfl).trans ((hF23 0).trans (hF0 0))))) (mV (v:=(iv k)) rfl (mV (v:=(.int .u64 ((((sb (u.getD k default) ((dq*y.getD k default+c)%4294967296)):Nat):Int)))) rfl ?_)))))
  refine rV (bR (k:=.u32) (a:=(((sb (u.getD k default) ((dq*y.getD k default+c)%4294967296)):Nat):Int)) (c:=(((sb (u.getD k default) ((dq*y.getD k default+c)%4294967296))%4294967296:Nat):Int)) dB bN rfl (cu32 _)) (rV (aJ (i:=(k:Int)) bE bM rfl rfl oM oM) ?_)
  refine RL.runs rfl rfl (xU (g:=(gN .u32)) (vv:=(.int .u32 ((((sb (u.getD k default) ((dq*y.getD k default+c)%4294967296))%4294967296:Nat):Int)))) (u:=(sb (u.getD k default) ((dq*y.getD k default+c)%4294967296))%4294967296) (i:=(k:Int)) bM rfl rfl rfl rfl rfl hu (k) oM oM) ?_
  rintro w72 ⟨ha73,hx74⟩
  have hx74z:=hx74.size
  replace hy:=hy.tr (hu.sm hx74 (by exact hDy _))
  replace hX:=hX.trans hx74
  replace hu:=ha73
  refine RL.nil (aV (mV (v:=(.int .u64 ((((dq*y.getD k default+c):Nat):Int)))) rfl (rV (jM (k:=.u64) (a:=(((dq*y.getD k default+c):Nat):Int)) (b:=32) (c:=(((dq*y.getD k default+c)/4294967296:Nat):Int)) rfl rfl dC (shr32 _)) (mV (v:=(.int .u64 ((((sb (u.getD k default) ((dq*y.getD k default+c)%4294967296)):Nat):Int)))) rfl (rV (jM (k:=.u64) (a:=(((sb (u.getD k default) ((dq*y.getD k default+c)%4294967296)):Nat):Int)) (b:=63) (c:=(((sb (u.getD k default) ((dq*y.getD k default+c)%4294967296))/9223372036854775808:Nat):Int)) rfl rfl dC (aLm _)) ?_)))))
  refine rV (dP (k:=.u64) (a:=(((dq*y.getD k default+c)/4294967296:Nat):Int)) (b:=(((sb (u.getD k default) ((dq*y.getD k default+c)%4294967296))/9223372036854775808:Nat):Int)) (c:=(((dq*y.getD k default+c)/4294967296+(sb (u.getD k default) ((dq*y.getD k default+c)%4294967296))/9223372036854775808:Nat):Int)) rfl rfl ((cX (by have:=hmc.2;omega)).trans oM)) (aS (v:=(.int .u64 ((((dq*y.getD k default+c)/4294967296+(sb (u.getD k default) ((dq*y.getD k default+c)%4294967296))/9223372036854775808:Nat):Int)))) rfl (RL.nil (aV (rV (dP (k:=.i64) (a:=(k:Int)) (b:=1) (c:=(k:Int)+1) hs63 rfl (dJ oM)) (mV (v:=(iv ((k:Int)+1))) rfl ?_)))))
  refine RL.nil ?_
  refine⟨(k+1,(dq*y.getD k default+c)/4294967296+(sb (u.getD k default) ((dq*y.getD k default+c)%4294967296))/9223372036854775808,P++[(sb (u.getD k default) ((dq*y.getD k default+c)%4294967296))%4294967296]),⟨?_,?_,?_,?_,?_,?_,?_,?_,?_,?_,?_⟩,?_⟩
  ·exact(by repeat (first|exact hoff62|refine Off.st ?_ dC _|refine Off.via hoff56 dC ?_|refine Off.eq hF23 ?_))
  ·first|rfl|exact aQ oM|exact aD (by simp)
  ·first|rfl|exact aQ oM|exact aD (by simp)
  ·omega
  ·rw[List.length_append,hP];rfl
  ·exact hLm.snoc (Nat.mod_lt _ dC)
  ·exact hmc.2
  ·rw[bI (xs:=y) hkl,bI (xs:=u) oM];exact aUh hP hms huk
  ·rw[pS hP oM] at hu;exact hu
  ·exact hy
  ·exact hX
  (try dsimp only)
  omega
 refine fB ?_
 refine bB ?_
 have hkn:k=y.length:=by omega
 have hPn:P.length=y.length:=by omega
 have hsl:=aCu bun hc
 have hms2:val P+dq*val y=val (u.take y.length)+4294967296^y.length*c:=by rw[hkn,List.take_of_length_le (Nat.le_refl y.length)] at hms;exact hms
 have huv:val u=val (u.take y.length)+4294967296^y.length*un:=by have h9:=bI (xs:=u) (k:=y.length) oM;rw[List.take_of_length_le oM] at h9;rw[hun];exact h9
 refine aV (mV (v:=(.slice (some ⟨b,pre.length,none⟩) (y.length+1) (cap))) ((hoff62 0 rfl).trans ((hF59 0).trans ((hoff56 0 rfl).trans ((hF23 0).trans (hF0 0))))) (mV (v:=(iv (y.length:Nat))) ((hoff62 5 rfl).trans ((hF59 5).trans ((hoff56 5 rfl).trans (hF23 5)))) (rV (aJ (i:=((y.length:Nat):Int)) bE bM rfl rfl oM oM) ?_)))
 have hc75:=hu.cell (i:=((y.length:Nat):Int)) (y.length) oM oM
 rw[show(P++u.drop k).getD (y.length) default=un from (by rw[hkn,tA hPn];exact hun.symm)] at hc75
 refine rV (aY (v:=(.int .u32 (un:Int))) bN dR rfl hc75) (rV (bR (k:=.u64) (a:=(un:Int)) (c:=(un:Int)) bN dB rfl (cX oM)) (mV hs64 (rV (eH (k:=.u64) (a:=(un:Int)) (b:=(c:Int)) (c:=(((sb un c):Nat):Int)) rfl rfl (wsb oM oM)) (aS (v:=(.int .u64 ((((sb un c):Nat):Int)))) rfl (RL.nil ?_)))))
 refine wsr (mV (v:=(.slice (some ⟨b,pre.length,none⟩) (y.length+1) (cap))) ((hoff62 0 rfl).trans ((hF59 0).trans ((hoff56 0 rfl).trans ((hF23 0).trans (hF0 0))))) (mV (v:=(iv (y.length:Nat))) ((hoff62 5 rfl).trans ((hF59 5).trans ((hoff56 5 rfl).trans (hF23 5)))) (mV (v:=(.int .u64 ((((sb un c):Nat):Int)))) rfl (rV (bR (k:=.u32) (a:=(((sb un c):Nat):Int)) (c:=(((sb un c)%4294967296:Nat):Int)) dB bN rfl (cu32 _)) (rV (aJ (i:=((y.length:Nat):Int)) bE bM rfl rfl oM oM) ?_)))))
 refine RL.runs rfl rfl (xU (g:=(gN .u32)) (vv:=(.int .u32 ((((sb un c)%4294967296:Nat):Int)))) (u:=(sb un c)%4294967296) (i:=((y.length:Nat):Int)) bM rfl rfl rfl rfl rfl hu (y.length) oM oM) ?_
 rintro w76 ⟨ha77,hx78⟩
 have hx78z:=hx78.size
 replace hy:=hy.tr (hu.sm hx78 (by exact hDy _))
 replace hX:=hX.trans hx78
 replace hu:=ha77
 refine RL.nil (bB (bB ?_))
 have hl1:(P++u.drop k).set y.length ((sb un c)%4294967296)=P++[(sb un c)%4294967296]:=by rw[hkn,pS hPn oM,List.drop_of_length_le oM,List.append_nil]
 refine aV (mV (v:=(.int .u64 ((((sb un c):Nat):Int)))) rfl (rV (jM (k:=.u64) (a:=(((sb un c):Nat):Int)) (b:=63) (c:=(((sb un c)/9223372036854775808:Nat):Int)) rfl rfl dC (aLm _)) (rV (iW (k:=.u64) (a:=(((sb un c)/9223372036854775808:Nat):Int)) (b:=0) rfl rfl) (RL.nil ?_))))
 refine wcD (p:=(((sb un c)/9223372036854775808:Nat):Int)=0) rfl (λhb79 hb79p=>?_) (λhb79 hb79p=>?_)
 ·have hd0:(sb un c)/9223372036854775808=0:=by have:=hb79p;omega
  refine bB ?_
  have hcu:c<=un:=hsl.2.2.1 hd0
  have hok:=bGo hK.pos hms2 huv hcu hq1
  have hsb2:(sb un c)%4294967296=un-c:=by have:=hsl.1;omega
  refine aV (mV (v:=(.int .u64 (dq:Int))) ((hoff62 7 rfl).trans ((hF59 7).trans hs57)) (rV (bR (k:=.u32) (a:=(dq:Int)) (c:=(dq:Int)) dB bN rfl (aCn oM)) (aS (v:=(.int .u32 (dq:Int))) rfl (RL.nil ?_))))
  refine cE ?_
  refine⟨[(.int .u32 (dq:Int))],⟨rfl,trivial⟩,?_⟩
  refine⟨aQ (by rw[hok.1]),⟨_,hu,?_,?_⟩,hX⟩
  ·rw[hl1];exact hLm.snoc (Nat.mod_lt _ dC)
  rw[hl1,eS,hPn,hsb2,<-hok.2]
 have hd0:(sb un c)/9223372036854775808≠0:=by have:=hb79p;omega
 refine bW ?_
 refine bB ?_
 have hcu:¬c<=un:=λh=>hd0 (hsl.2.2.2 h)
 have hPlt:=eM hLm
 rw[hPn] at hPlt
 have hbk:=aUi hK.pos hms2 huv oM hq2 hPlt (eM lmy)
 have hdq1:0<dq:=by rw[hbk.1];exact Nat.succ_pos _
 have hdd:(sb un c)%4294967296+1=4294967296:=by have:=hsl.1;have:=hsl.2.1;have:=hbk.2.1;omega
 refine aV (aS (v:=(.int .u64 0)) rfl (RL.nil (bB (wsr (mV (v:=vy) ((hoff62 1 rfl).trans ((hF59 1).trans ((hoff56 1 rfl).trans ((hF23 1).trans (hF0 1))))) ?_)))))
 refine rV (cK bE hv3) (mV (v:=(iv 0)) rfl (RL.nil ?_))
 refine cF ?_
 refine cV λF80 hF81=>?_
 refine fU (σ:=Nat×Nat×List Nat) (λ(s:Nat×Nat×List Nat) fl wl=>match s with|(k,c2,P2)=>Off (9::(rg 15 2 (rg 136 23 []))) F80 fl∧fl 136=(iv k)∧fl 9=(.int .u64 (c2:Int))∧(k<=y.length)∧(P2.length=k)∧(Lm P2)∧(c2<=1)∧(val P2+4294967296^k*c2=val (P.take k)+val (y.take k))∧(Ag (gN .u32) wl b 131 pre (P2++(P++[(sb un c)%4294967296]).drop k) post (y.length+1))∧(Sg (gN .u32) Dy wl vy y)∧(Exc b w wl)) (λ(s:Nat×Nat×List Nat)=>match s with|(k,c2,P2)=>y.length-k) (0,0,[]) ?_ ?_
 ·exact⟨Off.refl _ _,(hF81 136).trans (rfl),(hF81 9).trans (rfl),Nat.zero_le _,rfl,Lm.nil,Nat.zero_le _,(by simp[val]),(by rw[hl1] at hu;exact hu),hy,hX⟩
 clear hu hy hX
 rintro⟨k,c2,P2⟩ f82 w83 ⟨hoff84,hs85,hs86,hk,hP2,hP2m,hc2,hbs,hu,hy,hX⟩
 refine wsr (rV (eQ (k:=.i64) (a:=(k:Int)) (b:=((y.length:Nat):Int)) hs85 ((hoff84 135 rfl).trans (hF81 135))) (RL.nil (bB ?_)))
 refine wcD (p:=(k:Int)<((y.length:Nat):Int)) rfl (λhb87 hb87p=>?_) (λhb87 hb87p=>?_)
 ·refine bW ?_
  refine bB ?_
  refine cF ?_
  refine bB ?_
  have hkl:k<y.length:=by omega
  have hvk:=lmy.at hkl
  have hpk:=hLm.at (k:=k) oM
  have hgk:(P2++(P++[(sb un c)%4294967296]).drop k).getD k default=P.getD k default:=by rw[tA hP2,List.getD_eq_getElem?_getD,List.getElem?_append_left oM,<-List.getD_eq_getElem?_getD]
  refine aV (mV hs85 ?_)
  obtain⟨b88,o89,c90,hv91,hc92⟩:=hy.ix (i:=(k:Int)) (k) oM oM
  refine rV (aJ (i:=(k:Int)) bE bM ((((hoff84 134 rfl).trans (hF81 134))).trans hv91) hs85 oM oM) (rV (aY (v:=(.int .u32 (((y.getD (k) default:Nat):Int)))) bN dR rfl hc92) (aS (v:=(iv k)) rfl (aS (v:=(.int .u32 (((y.getD (k) default:Nat):Int)))) rfl (RL.nil (wsr ?_)))))
  refine mV hs86 (mV (v:=(.slice (some ⟨b,pre.length,none⟩) (y.length+1) (cap))) ((hoff84 0 rfl).trans ((hF81 0).trans ((hoff62 0 rfl).trans ((hF59 0).trans ((hoff56 0 rfl).trans ((hF23 0).trans (hF0 0))))))) (mV (v:=(iv k)) rfl (rV (aJ (i:=(k:Int)) bE bM rfl rfl oM oM) ?_)))
  have hc93:=hu.cell (i:=(k:Int)) (k) oM oM
  rw[show(P2++(P++[(sb un c)%4294967296]).drop k).getD (k) default=P.getD k default from hgk] at hc93
  refine rV (aY (v:=(.int .u32 (((P.getD k default:Nat):Int)))) bN dR rfl hc93) (rV (bR (k:=.u64) (a:=((P.getD k default:Nat):Int)) (c:=((P.getD k default:Nat):Int)) bN dB rfl (cX oM)) (mV (v:=(.int .u32 (((y.getD (k) default:Nat):Int)))) rfl (rV (bR (k:=.u64) (a:=((y.getD (k) default:Nat):Int)) (c:=((y.getD (k) default:Nat):Int)) bN dB rfl (cX oM)) (rV (dP (k:=.u64) (a:=((P.getD k default:Nat):Int)) (b:=((y.getD (k) default:Nat):Int)) (c:=((P.getD k default+y.getD k default:Nat):Int)) rfl rfl ((cX oM).trans oM)) (rV (dP (k:=.u64) (a:=(c2:Int)) (b:=((P.getD k default+y.getD k default:Nat):Int)) (c:=((c2+(P.getD k default+y.getD k default):Nat):Int)) rfl rfl ((cX oM).trans oM)) ?_)))))
  refine aS (v:=(.int .u64 (((c2+(P.getD k default+y.getD k default):Nat):Int)))) rfl (RL.nil (wsr (mV (v:=(.slice (some ⟨b,pre.length,none⟩) (y.length+1) (cap))) ((hoff84 0 rfl).trans ((hF81 0).trans ((hoff62 0 rfl).trans ((hF59 0).trans ((hoff56 0 rfl).trans ((hF23 0).trans (hF0 0))))))) (mV (v:=(iv k)) rfl (mV (v:=(.int .u64 (((c2+(P.getD k default+y.getD k default):Nat):Int)))) rfl ?_)))))
  refine rV (bR (k:=.u32) (a:=((c2+(P.getD k default+y.getD k default):Nat):Int)) (c:=(((c2+(P.getD k default+y.getD k default))%4294967296:Nat):Int)) dB bN rfl (cu32 _)) (rV (aJ (i:=(k:Int)) bE bM rfl rfl oM oM) ?_)
  refine RL.runs rfl rfl (xU (g:=(gN .u32)) (vv:=(.int .u32 ((((c2+(P.getD k default+y.getD k default))%4294967296:Nat):Int)))) (u:=(c2+(P.getD k default+y.getD k default))%4294967296) (i:=(k:Int)) bM rfl rfl rfl rfl rfl hu (k) oM oM) ?_
  rintro w94 ⟨ha95,hx96⟩
  have hx96z:=hx96.size
  replace hy:=hy.tr (hu.sm hx96 (by exact hDy _))
  replace hX:=hX.trans hx96
  replace hu:=ha95
  refine RL.nil (aV (mV (v:=(.int .u64 (((c2+(P.getD k default+y.getD k default):Nat):Int)))) rfl (rV (jM (k:=.u64) (a:=((c2+(P.getD k default+y.getD k default):Nat):Int)) (b:=32) (c:=(((c2+(P.getD k default+y.getD k default))/4294967296:Nat):Int)) rfl rfl dC (shr32 _)) (aS (v:=(.int .u64 ((((c2+(P.getD k default+y.getD k default))/4294967296:Nat):Int)))) rfl (RL.nil ?_)))))
  refine aV (rV (dP (k:=.i64) (a:=(k:Int)) (b:=1) (c:=(k:Int)+1) hs85 rfl (dJ oM)) (mV (v:=(iv ((k:Int)+1))) rfl (RL.nil ?_)))
  refine⟨(k+1,(c2+(P.getD k default+y.getD k default))/4294967296,P2++[(c2+(P.getD k default+y.getD k default))%4294967296]),⟨?_,?_,?_,?_,?_,?_,?_,?_,?_,?_,?_⟩,?_⟩
  ·exact(by repeat (first|exact hoff84|refine Off.st ?_ dC _|refine Off.via hoff62 dC ?_|refine Off.eq hF59 ?_|refine Off.via hoff56 dC ?_|refine Off.eq hF23 ?_))
  ·first|rfl|exact aQ oM|exact aD (by simp)
  ·first|rfl|exact aQ oM|exact aD (by simp)
  ·omega
  ·rw[List.length_append,hP2];rfl
  ·exact hP2m.snoc (Nat.mod_lt _ dC)
  ·omega
  ·rw[bI (xs:=y) hkl,bI (xs:=P) oM];exact aIy hP2 hbs
  ·rw[pS hP2 (by rw[List.length_append,hPn];simp;omega)] at hu;exact hu
  ·exact hy
  ·exact hX
  (try dsimp only)
  omega
 refine fB ?_
 refine bB ?_
 have hkn2:k=y.length:=by omega
 have hbf:=aLj oM hP2m (by rw[hkn2,List.take_of_length_le oM,List.take_of_length_le (Nat.le_refl _)] at hbs;exact hbs) hbk.2.2 (Nat.lt_trans (Nat.mod_lt _ hK.pos) (eM lmy))
 have hgn:(P2++(P++[(sb un c)%4294967296]).drop k).getD y.length default=(sb un c)%4294967296:=aLo oM hPn hkn2
 refine aV (mV (v:=(.slice (some ⟨b,pre.length,none⟩) (y.length+1) (cap))) ((hoff84 0 rfl).trans ((hF81 0).trans ((hoff62 0 rfl).trans ((hF59 0).trans ((hoff56 0 rfl).trans ((hF23 0).trans (hF0 0))))))) (mV (v:=(iv (y.length:Nat))) ((hoff84 5 rfl).trans ((hF81 5).trans ((hoff62 5 rfl).trans ((hF59 5).trans ((hoff56 5 rfl).trans (hF23 5)))))) (rV (aJ (i:=((y.length:Nat):Int)) bE bM rfl rfl oM oM) ?_)))
 have hc97:=hu.cell (i:=((y.length:Nat):Int)) (y.length) oM oM
 rw[show(P2++(P++[(sb un c)%4294967296]).drop k).getD (y.length) default=(sb un c)%4294967296 from hgn] at hc97
 refine rV (aY (v:=(.int .u32 ((((sb un c)%4294967296:Nat):Int)))) bN dR rfl hc97) (mV hs86 (rV (bR (k:=.u32) (a:=(c2:Int)) (c:=1) dB bN rfl ((aCn (by have:=hbf.1;omega)).trans (by have:=hbf.1;omega))) (rV (dP (k:=.u32) (a:=(((sb un c)%4294967296:Nat):Int)) (b:=1) (c:=((0:Nat):Int)) rfl rfl (aJc hdd)) (rV (aJ (i:=((y.length:Nat):Int)) bE bM rfl rfl oM oM) ?_))))
 refine RL.runs rfl rfl (xU (g:=(gN .u32)) (vv:=(.int .u32 (((0:Nat):Int)))) (u:=0) (i:=((y.length:Nat):Int)) bM rfl rfl rfl rfl rfl hu (y.length) oM oM) ?_
 rintro w98 ⟨ha99,hx100⟩
 have hx100z:=hx100.size
 replace hX:=hX.trans hx100
 replace hu:=ha99
 refine RL.nil (bB ?_)
 have hl0:(P2++(P++[(sb un c)%4294967296]).drop k).set y.length 0=P2++[0]:=by rw[hkn2,pS oM (by rw[List.length_append,hPn];simp),List.drop_of_length_le (by rw[List.length_append,hPn];simp),List.append_nil]
 refine aV (mV (v:=(.int .u64 (dq:Int))) ((hoff84 7 rfl).trans ((hF81 7).trans ((hoff62 7 rfl).trans ((hF59 7).trans hs57)))) (rV (eH (k:=.u64) (a:=(dq:Int)) (b:=1) (c:=((dq-1:Nat):Int)) rfl rfl ((cX oM).trans oM)) (rV (bR (k:=.u32) (a:=((dq-1:Nat):Int)) (c:=((dq-1:Nat):Int)) dB bN rfl (aCn oM)) (aS (v:=(.int .u32 (((dq-1:Nat):Int)))) rfl (RL.nil ?_)))))
 refine cE ?_
 refine⟨[(.int .u32 (((dq-1:Nat):Int)))],⟨rfl,trivial⟩,?_⟩
 refine⟨aQ (by rw[hbk.1,Nat.add_sub_cancel]),⟨_,hu,?_,?_⟩,hX⟩
 ·rw[hl0];exact hP2m.snoc dC
 rw[hl0,eS,hbf.2];simp
end Go.Proofs.YtlhdigjbokkbiaaGreat.W
namespace Go.Proofs.YtlhdigjbokkbiaaGreat.W
open Go.Vg Go.RowKit Go.Shelf _root_.Go.Proofs.Tryz
def rho:Ren:=⟨λn=>if n=128 then 165 else if n=133 then 172 else 0,λn=>if n=3 then 3 else if n=4 then 4 else if n=5 then 5 else if n=9 then 9 else if n=46 then 161 else if n=51 then 131 else 0,λx=>x⟩
theorem aUm:Lays.n133 Tryz.prog rho:=by
 constructor<;>first|kernel_rfl|(intro w;kernel_rfl)
theorem aGf:∀(f x:Nat),x<2^f->f<=64->x≠0->1<=Lib.bitLen x∧2^(Lib.bitLen x-1)<=x∧x<2^Lib.bitLen x
 |0,x,h,_,h0=>by simp at h;exact absurd h h0
 |f+1,x,h,hf,h0=>by
  have h64:x<2^64:=Nat.lt_of_lt_of_le h (Nat.pow_le_pow_right dC hf)
  rw[Lib.bitLen_half x h0 h64]
  by_cases h1:x/2=0
  ·have hx1:x=1:=by omega
   subst hx1
   decide
  have h2:x/2<2^f:=by rw[Nat.pow_succ] at h;omega
  obtain⟨g1,g2,g3⟩:=aGf f (x/2) h2 oM h1
  refine⟨by omega,?_,?_⟩
  ·have e:2^(1+Lib.bitLen (x/2)-1)=2^(Lib.bitLen (x/2)-1)*2:=by rw[<-Nat.pow_succ];congr 1;omega
   rw[e];omega
  rw[Nat.add_comm,Nat.pow_succ];omega
theorem wW {x:Nat} (w:World) (h0:x≠0) (hx:x<4294967296):Calls Tryz.prog 172 #[.int .u32 (x:Int)] w λe w'=>∃v,e= .returned v∧(∃s:Nat,v= .int .i64 (s:Int)∧s<=31∧2147483648<=x*2^s∧x*2^s<4294967296)∧w=w':=by
 refine(Any.bits_LeadingZeros32 aUm (x:Int) w oM oM).mono ?_
 rintro e w' ⟨rfl,rfl⟩
 obtain⟨g1,g2,g3⟩:=aGf 32 x hx dC h0
 rw[Int.toNat_natCast]
 have hb:Lib.bitLen x<=32:=by
  have h:2^(Lib.bitLen x-1)<2^32:=Nat.lt_of_le_of_lt g2 hx
  have:=(Nat.pow_lt_pow_iff_right dC).1 h
  omega
 refine⟨_,rfl,⟨32-Lib.bitLen x,by congr 1;omega,by omega,?_,?_⟩,rfl⟩
 ·have e:(2147483648:Nat)=2^(Lib.bitLen x-1)*2^(32-Lib.bitLen x):=by rw[<-Nat.pow_add,show Lib.bitLen x-1+(32-Lib.bitLen x)=31 by omega]
  rw[e];exact Nat.mul_le_mul_right _ g2
 have e:(4294967296:Nat)=2^Lib.bitLen x*2^(32-Lib.bitLen x):=by rw[<-Nat.pow_add,show Lib.bitLen x+(32-Lib.bitLen x)=32 by omega]
 rw[e];exact Nat.mul_lt_mul_of_pos_right g3 (Nat.pow_pos dC)
end Go.Proofs.YtlhdigjbokkbiaaGreat.W
namespace Go.Vm
theorem aCv {a m n s V:Nat} {U:List Nat} (hl:U.length=m+1) (hU:Lm U) (hv:val U=a*2^s) (ha:a<4294967296^m) (hs:s<=31) (hn:n<=m) (h1:1<=n) (hV:2147483648*4294967296^(n-1)<=V):val (U.drop (m+1-n))<V:=by
 have hd:=jB hU (m+1-n)
 rw[<-hd,hv]
 refine Nat.lt_of_lt_of_le ?_ hV
 refine(Nat.div_lt_iff_lt_mul (Nat.pow_pos dC)).2 ?_
 have e:4294967296^(n-1)*4294967296^(m+1-n)=4294967296^m:=by rw[<-Nat.pow_add];congr 1;omega
 rw[Nat.mul_assoc,e,Nat.mul_comm a]
 have h31:2^s<=2147483648:=Nat.le_trans (Nat.pow_le_pow_right dC hs) dC
 exact Nat.lt_of_lt_of_le (Nat.mul_lt_mul_of_pos_left ha (Nat.pow_pos dC)) (Nat.mul_le_mul_right _ h31)
theorem aLp {u:List Nat} {j n V:Nat} (lu:Lm u) (hl:j+n+1<=u.length) (hV:V<4294967296^n) (h:val (u.drop (j+1))<V):val ((u.drop j).take (n+1))<V*4294967296∧val (u.drop (j+(n+1)))=0:=by
 have h1:=kI (a:=u) (n:=j+1) (Nat.succ_pos _) oM
 rw[Nat.add_sub_cancel] at h1
 have hj:=lu.at (k:=j) oM
 have h2:=fF (u.drop j) (m:=n+1) (by rw[List.length_drop];omega)
 rw[List.drop_drop] at h2
 have hlt:val (u.drop j)<V*4294967296:=by rw[h1];omega
 have hz:val (u.drop (j+(n+1)))=0:=by
  rcases Nat.eq_zero_or_pos (val (u.drop (j+(n+1)))) with h|h
  ·exact h
  have h3:4294967296^(n+1)<=4294967296^(n+1)*val (u.drop (j+(n+1))):=Nat.le_mul_of_pos_right _ h
  have h4:V*4294967296<4294967296^(n+1):=by rw[Nat.pow_succ];exact Nat.mul_lt_mul_of_pos_right hV dC
  omega
 exact⟨by rw[hz,Nat.mul_zero,Nat.add_zero] at h2;omega,hz⟩
theorem aJd {u mid Q:List Nat} {j n V A q:Nat} (hl:j+n+1<=u.length) (hm:mid.length=n+1) (hz:val (u.drop (j+(n+1)))=0) (hq:q=val ((u.drop j).take (n+1))/V) (hr:val mid=val ((u.drop j).take (n+1))%V) (hV:0<V)
 (h:A=val u+V*(4294967296^(j+1)*val Q)):A=val (u.take j++mid++u.drop (j+(n+1)))+V*(4294967296^j*val (q::Q))∧val ((u.take j++mid++u.drop (j+(n+1))).drop j)<V∧(u.take j++mid++u.drop (j+(n+1))).length=u.length:=by
 have htl:(u.take j).length=j:=by rw[List.length_take];omega
 have e1:val (u.take j++mid++u.drop (j+(n+1)))=val (u.take j)+4294967296^j*val mid:=by
  rw[List.append_assoc,fJ,fJ,hz,htl];simp
 have e2:val u=val (u.take j)+4294967296^j*val ((u.drop j).take (n+1)):=by
  have h2:=fF u (m:=j) oM
  have h3:=fF (u.drop j) (m:=n+1) (by rw[List.length_drop];omega)
  rw[List.drop_drop,hz,Nat.mul_zero,Nat.add_zero] at h3
  rw[h2,h3]
 have e3:val ((u.take j++mid++u.drop (j+(n+1))).drop j)=val mid:=by
  have h5:((u.take j++mid++u.drop (j+(n+1))).drop j)=mid++u.drop (j+(n+1)):=by
   rw[List.append_assoc,List.drop_append_of_le_length oM,List.drop_of_length_le oM,List.nil_append]
  rw[h5,fJ,hz];simp
 refine⟨?_,?_,?_⟩
 ·refine(aIz (A:=val u) (Q:=val Q) (low:=val (u.take j)) (W:=val ((u.drop j).take (n+1))) (W':=val mid) (V:=V) (j:=j) (q:=q) (B':=4294967296^j) ?_ rfl e2 e1 ?_).trans ?_
  ·rw[h,Nat.pow_succ,Nat.mul_assoc (4294967296^j)]
  ·rw[hq,hr,Nat.mul_comm];exact(Nat.div_add_mod _ _).symm
  rfl
 ·rw[e3,hr];exact Nat.mod_lt _ hV
 simp only[List.length_append,List.length_drop,htl,hm];omega
theorem aLq {a b s A V R Q:Nat} (hA:A=a*2^s) (hV:V=b*2^s) (h:A=R+V*Q) (hR:R<V):Q=a/b∧R/2^s=a%b:=by
 have hp:0<2^s:=Nat.pow_pos dC
 have h1:=xP (n:=A) (b:=V) (Qn:=Q) (r:=R) (by rw[h,Nat.mul_comm];omega) hR
 refine⟨?_,?_⟩
 ·rw[h1.1,hA,hV,Nat.mul_div_mul_right _ _ hp]
 rw[h1.2,hA,hV,Nat.mul_mod_mul_right,Nat.mul_div_cancel _ hp]
theorem aLr {Y:List Nat} {V n s:Nat} (lY:Lm Y) (hs:s<=31) (hn:2<=n) (hl:Y.length=n) (hV:V=val Y*2^s) (h1:2147483648<=Y.getD (n-1) default*2^s) (h2:Y.getD (n-1) default*2^s<4294967296):2147483648*4294967296^(n-1)<=V∧V<4294967296^n:=by
 have e:=bI (xs:=Y) (k:=n-1) oM
 rw[show n-1+1=n by omega,List.take_of_length_le oM] at e
 have hlt:=eM (lY.take (n-1))
 rw[List.length_take,show min (n-1) Y.length=n-1 by omega] at hlt
 have ep:4294967296^n=4294967296^(n-1)*4294967296:=by rw[<-Nat.pow_succ];congr 1;omega
 have ek:4294967296=2^(32-s)*2^s:=by rw[<-Nat.pow_add,show 32-s+s=32 by omega]
 have hk:0<2^s:=Nat.pow_pos dC
 generalize Y.getD (n-1) default=t at*
 generalize val (Y.take (n-1))=lo at*
 have h3:(t+1)*2^s<=4294967296:=by
  rw[ek] at h2 ⊢
  exact Nat.mul_le_mul_right _ (Nat.lt_of_mul_lt_mul_right h2)
 clear ek
 generalize 4294967296^(n-1)=p at*
 generalize 2^s=k at*
 subst hV
 rw[e,ep]
 refine⟨?_,?_⟩
 ·have h4:=Nat.mul_le_mul_left p h1
  have h5:p*(t*k)<=(lo+p*t)*k:=by rw[Nat.add_mul,Nat.mul_assoc];exact Nat.le_add_left _ _
  rw[Nat.mul_comm p] at h4
  exact Nat.le_trans h4 h5
 have h4:=Nat.mul_le_mul_left p h3
 refine Nat.lt_of_lt_of_le ?_ h4
 rw[<-Nat.mul_assoc,Nat.mul_add,Nat.mul_one]
 exact Nat.mul_lt_mul_of_pos_right oM hk
theorem aUn {L:List Nat} {n:Nat} (hn:1<=n) (hl:L.length=n) (hL:Lm L) (h:2147483648*4294967296^(n-1)<=val L):2147483648<=L.getD (n-1) default:=by
 have e:=bI (xs:=L) (k:=n-1) oM
 rw[show n-1+1=n by omega,List.take_of_length_le oM] at e
 have hlt:=eM (hL.take (n-1))
 rw[List.length_take,show min (n-1) L.length=n-1 by omega] at hlt
 rw[e] at h
 generalize 4294967296^(n-1)=p at*
 generalize L.getD (n-1) default=t at*
 rcases Nat.lt_or_ge t 2147483648 with h6|h6
 ·have h7:p*(t+1)<=p*2147483648:=Nat.mul_le_mul_left p h6
  rw[Nat.mul_add,Nat.mul_one] at h7
  omega
 exact h6
theorem aAr {L:List Nat} {n:Nat} (hl:n<=L.length) (h:val L<4294967296^n):val (L.take n)=val L:=by
 have e:=fF L hl
 rcases Nat.eq_zero_or_pos (val (L.drop n)) with h0|h0
 ·rw[h0] at e;omega
 have:=Nat.le_mul_of_pos_right (4294967296^n) h0;omega
end Go.Vm
namespace Go.Vg
open Go Go.RowKit Go.Vm
def Osl {α:Type} (c:α->List Value) (size:Nat) (w:World) (lo:Nat) (T:TypeId) (v:Value) (xs:List α):Prop:=
 ((∀x,(c x).length=size)∧0<size)∧Ow w lo T size v xs.length (xs.map c).flatten
section
variable {α:Type} {c:α->List Value} {size:Nat} {D:Nat->TypeId->Prop} {w w':World} {lo b cap:Nat} {T:TypeId} {v:Value} {xs:List α}
theorem Osl.ext (h:Osl c size w lo T v xs) (e:Ext w w'):Osl c size w' lo T v xs:=⟨h.1,h.2.ext e⟩
theorem Osl.lt (h:Osl c size w lo T v xs) (b:Nat) (hb:v.ownBlock=some b):b<w.heap.size:=(World.ownsRow.lt h.2 b hb).2
theorem Osl.ss (h:Osl c size w lo T v xs) (hD:∀b,lo<=b->D b T):Ss c size D w v xs:=h.2.ss rfl rfl h.1.2 (λx _=>h.1.1 x) hD
theorem Osl.at (h:Osl c size w lo T v xs) (k:Nat) (hk:k<xs.length):∃b cap,v= .slice (some ⟨b,0,none⟩) xs.length cap∧lo<=b:=by
 rcases h.2.2 with ⟨_,h0⟩|⟨b,cap,cur,rfl,hb,_⟩
 ·omega
 exact⟨b,cap,rfl,hb⟩
end
end Go.Vg
namespace Go.Vg
open Go Go.RowKit Go.Vm
section
variable {α:Type} {g:α->Value} {w:World} {b m:Nat} {T:TypeId} {u:List α}
theorem Ar.win (h:Ar g w b T 0 u m) (j k:Nat) (hjk:j+k<=m):∃pre post,pre.length=j∧Ag g w b T pre ((u.drop j).take k) post k∧∀w' mid,Ag g w' b T pre mid post k->Ar g w' b T 0 (u.take j++mid++u.drop (j+k)) m:=by
 obtain⟨⟨pre,post,h1,h2⟩,h3⟩:=h
 have hp0:pre=[]:=List.eq_nil_of_length_eq_zero h1
 subst hp0
 refine⟨(u.take j).map g,(u.drop (j+k)).map g++post,by simp;omega,⟨?_,by simp;omega⟩,?_⟩
 ·have e:u.map g=(u.take j).map g++(((u.drop j).take k).map g++(u.drop (j+k)).map g):=by
   rw[<-List.map_append,<-List.map_append,<-List.drop_drop,List.take_append_drop,List.take_append_drop]
  rw[e] at h2
  simpa[List.append_assoc] using h2
 rintro w' mid ⟨h4,h5⟩
 refine⟨⟨[],post,rfl,?_⟩,by simp;omega⟩
 simpa[List.append_assoc] using h4
end
section
variable {P:Program} {f:Nat->Value} {w:World} {dst:Option Tmp} {ty:TypeId} {pos:String} {aft:Array Edge} {gd:Option (Nat×Bool)} {x y z:Operand} {t e:TypeId}
theorem bAb {k k':IntKind} {b n c j m bytes:Nat} {l h:Int} {zz:Value} (hu:P.underlying t=some (.slice e)) (ht:TyI P e 1 bytes zz) (hx:ev f x= .slice (some ⟨b,0,none⟩) n c) (hy:ev f y= .int k l) (hz:ev f z= .int k' h) (hl:l=(j:Int)) (hh:h=((j+m:Nat):Int)) (hm:0<m) (hc:j+m<=c):
 (execOp (ev f) ⟨dst,.slice t x (some y) (some z) none,ty,pos,aft,gd⟩).run P w= .ok (.value (.slice (some ⟨b,j,none⟩) m (c-j))) w:=by
 have h2:=aCo (P:=P) (f:=f) (w:=w) (dst:=dst) (ty:=ty) (pos:=pos) (aft:=aft) (g:=gd) hu ht hx hy hz oM oM oM
 rw[hl,hh,Int.toNat_natCast,Int.toNat_natCast,if_neg oM,Nat.add_sub_cancel_left] at h2
 simpa[cS] using h2
end
end Go.Vg
namespace Go.Proofs.YtlhdigjbokkbiaaGreat.W
open Go.Vg Go.RowKit _root_.Go.Proofs.Tryz
open Go.Vm
theorem bAc {w:World} {Dx:Nat->TypeId->Prop} {vx:Value} {x:List Nat} (hx0:Sg (gN .u32) Dx w vx x) (lmx:Lm x) (lnx:x.length<=1099511627776) {Dy:Nat->TypeId->Prop} {vy:Value} {y:List Nat} (hy0:Sg (gN .u32) Dy w vy y) (lmy:Lm y) (lny:y.length<=1099511627776) (hn2:2<=y.length) (htz:y.getD (y.length-1) default≠0) (hyx:y.length<=x.length):
 Calls Tryz.prog 152 #[vx,vy] w λe w'=>∃v,e= .returned v∧(∃vq vr,v= .tuple #[vq,vr]∧Sg (gN .u32) (λb T=>w.heap.size<=b∧T=131) w' vq (aB (val x/val y))∧Sg (gN .u32) (λb T=>w.heap.size<=b∧T=131) w' vr (aB (val x%val y)))∧Ext w w':=by
 have hE:Below w.heap.size w w:=Below.refl _ _
 have hx:=hx0.old
 clear hx0
 have hy:=hy0.old
 clear hy0
 have hlvx:=bJ lmx
 have hlvy:=bJ lmy
 refine bH (n:=67) (rs:=[.tmp 4,.tmp 5]) func152 rfl rfl rfl bL ?_
 refine cV λF0 hF0=>?_
 refine wsr (aS (v:=(.slice none (0) (0))) rfl (aS (v:=(.slice none (0) (0))) rfl (RL.nil (wsr (mV (v:=vy) (hF0 1) ?_)))))
 obtain⟨A1,c2,hv3,hc4,hc5⟩:=hy.len
 refine rV (cK bE hv3) (aS (v:=(iv (y.length:Nat))) rfl (RL.nil (bB ?_)))
 have htl:=lmy.at (k:=y.length-1) oM
 refine aV (mV (v:=vy) (hF0 1) (mV (v:=(iv (y.length:Nat))) rfl (rV (eH (k:=.i64) (a:=((y.length:Nat):Int)) (b:=1) (c:=((y.length:Nat):Int)-1) rfl rfl (dJ oM)) ?_)))
 obtain⟨b6,o7,c8,hv9,hc10⟩:=hy.ix (i:=((y.length:Nat):Int)-1) (y.length-1) oM oM
 refine rV (aJ (i:=((y.length:Nat):Int)-1) bE bM hv9 rfl oM oM) (rV (aY (v:=(.int .u32 (((y.getD (y.length-1) default:Nat):Int)))) bN dR rfl hc10) ?_)
 refine cL aLa (wW (x:=y.getD (y.length-1) default) _ htz htl) rfl ?_
 rintro _ _ ⟨⟨sh,rfl,hs,hz1,hz2⟩,rfl⟩
 refine aS (v:=(iv sh)) rfl (RL.nil (wsr (mV (v:=vy) (hF0 1) (mV (v:=(iv sh)) rfl ?_))))
 refine cL aLc (wV hy (by assumption) oS hs) rfl ?_
 rintro vv21 w12 ⟨⟨b14,L15,hvv20,gr19,hb16,lm17,hvl18⟩,he13⟩
 have ge_b14:=Nat.le_trans hE.size gr19
 subst hvv20
 replace hE:=hE.nx he13
 refine mV (v:=(iv (y.length:Nat))) rfl ?_
 have hLl:L15.length=y.length+1:=hb16.2
 have hV:=(hb16.sc (D:=(λb _=>b=b14)) (Nat.le_refl _) oM rfl).take (y.length) oM rfl
 have hVb:=aLr lmy hs hn2 rfl rfl hz1 hz2
 have hLvv:val (L15.take y.length)=val y*2^sh:=by rw[aAr oM (by rw[hvl18];exact hVb.2)];exact hvl18
 have lmv:=lm17.take y.length
 obtain⟨Lv,hLv⟩:∃l,l=L15.take y.length:=⟨_,rfl⟩
 rw[<-hLv] at hV hLvv lmv
 have hLvl:Lv.length=y.length:=by rw[hLv,List.length_take];omega
 rw[<-hLvv,<-hLvl] at hVb
 have htopv:=aUn oM rfl lmv hVb.1
 refine rV (aTw (h:=((y.length:Nat):Int)) (kk:=y.length) bE bM rfl rfl rfl oM) (aS (v:=(.slice (some ⟨b14,0,none⟩) (y.length) (y.length+1))) rfl (RL.nil (wsr (mV (v:=vx) (hF0 0) (mV (v:=(iv sh)) rfl ?_)))))
 replace hx:=hx.tr (Sm.ext he13)
 refine cL aLc (wV hx (by assumption) oS hs) rfl ?_
 rintro vv31 w22 ⟨⟨b24,L25,hvv30,gr29,hb26,lm27,hvl28⟩,he23⟩
 have lt_b14_b24:=Nat.lt_of_lt_of_le hb16.lt gr29
 have ge_b24:=Nat.le_trans hE.size gr29
 subst hvv30
 replace hE:=hE.nx he23
 refine aS (v:=(.slice (some ⟨b24,0,none⟩) (x.length+1) (x.length+1))) rfl (RL.nil (bB ?_))
 obtain⟨dg,hdg⟩:∃d,d+y.length=x.length+1:=⟨x.length+1-y.length,by omega⟩
 have hVp:0<val Lv:=Nat.lt_of_lt_of_le (Nat.mul_pos dC (Nat.pow_pos dC)) hVb.1
 refine aV (mV (v:=(.slice (some ⟨b24,0,none⟩) (x.length+1) (x.length+1))) rfl (rV (cK bE rfl) (mV (v:=(iv (y.length:Nat))) rfl (rV (eH (k:=.i64) (a:=((x.length+1:Nat):Int)) (b:=((y.length:Nat):Int)) (c:=(dg:Int)) rfl rfl ((dJ oM).trans oM)) (aS (v:=(iv dg)) rfl ?_)))))
 refine RL.nil (wsr (mV (v:=(iv dg)) rfl ?_))
 have hn37:((dg:Int):Int)=(dg:Int):=by omega
 refine rU (jY (n:=dg) bE bM rfl (aQ hn37) (aQ hn37) oM oM) ?_
 rintro _ w32 ⟨b33,rfl,hs36,hb35,he34⟩
 have lt_b24_b33:=Nat.lt_of_lt_of_eq hb26.lt hs36.symm
 have ge_b33:=hE.ge hs36
 replace hE:=hE.nx he34
 replace hb35:=Ar.made (g:=(gN .u32)) (z:=(0:Nat)) hb35 rfl
 have hb35l:=hb35.lt
 refine aS (v:=(.slice (some ⟨b33,0,none⟩) (dg) (dg))) rfl (RL.nil (bB (wsr (mV (v:=(iv dg)) rfl (mV (v:=(iv 0)) rfl ?_)))))
 refine RL.nil ?_
 refine cF ?_
 refine cV λF38 hF39=>?_
 refine fU (σ:=Nat×List Nat×List Nat) (λ(s:Nat×List Nat×List Nat) fl wl=>match s with|(k,u,Q)=>Off (rg 11 2 (rg 36 20 [])) F38 fl∧fl 36=(iv k)∧(k<=dg)∧(u.length=x.length+1)∧(Lm u)∧(Q.length=k)∧(Lm Q)∧(val x*2^sh=val u+val Lv*(4294967296^(dg-k)*val Q))∧(val (u.drop (dg-k))<val Lv)∧(Ar (gN .u32) wl b24 131 0 u (x.length+1))∧(Ar (gN .u32) wl b33 131 0 (List.replicate (dg-k) 0++Q) dg)∧(Sg (gN .u32) (λb T=>Dx b T∧b<w.heap.size) wl vx x)∧(Sg (gN .u32) (λb T=>Dy b T∧b<w.heap.size) wl vy y)∧(Below w.heap.size w wl)∧(Ar (gN .u32) wl b14 131 0 L15 (y.length+1))∧(Sg (gN .u32) (λb _=>b=b14) wl (.slice (some ⟨b14,0,none⟩) (y.length) (y.length+1)) Lv)) (λ(s:Nat×List Nat×List Nat)=>match s with|(k,u,Q)=>dg-k) (0,L25,[]) ?_ ?_
 ·replace hb26:=hb26.ext he34
  replace hx:=hx.tr (Sm.ext (Ext.trans he23 he34))
  have hm40:=Ext.trans he13 (Ext.trans he23 he34)
  replace hy:=hy.tr (Sm.ext hm40)
  replace hb16:=hb16.ext (Ext.trans he23 he34)
  replace hV:=hV.tr (Sm.ext (Ext.trans he23 he34))
  exact⟨Off.refl _ _,(hF39 36).trans (rfl),Nat.zero_le _,hb26.2,lm27,rfl,Lm.nil,(by rw[hvl28];simp[val]),(by rw[Nat.sub_zero,show dg=x.length+1-Lv.length by omega];exact aCv hb26.2 lm27 hvl28 (eM lmx) hs oM oM hVb.1),hb26,(by simpa using hb35),hx,hy,hE,hb16,hV⟩
 clear hx hy hE hb16 hV hb26 hb35
 rintro⟨k,u,Q⟩ f41 w42 ⟨hoff43,hs44,hk,hul,lmu,hQl,hQm,hinv,hrem,hb26,hb35,hx,hy,hE,hb16,hV⟩
 refine wsr (rV (eQ (k:=.i64) (a:=(k:Int)) (b:=(dg:Int)) hs44 ((hoff43 35 rfl).trans (hF39 35))) (RL.nil (bB ?_)))
 refine wcD (p:=(k:Int)<(dg:Int)) rfl (λhb45 hb45p=>?_) (λhb45 hb45p=>?_)
 ·refine bW ?_
  refine bB ?_
  refine cF ?_
  refine bB ?_
  obtain⟨j,hj⟩:∃j,dg-k=j+1:=⟨dg-k-1,by omega⟩
  have hj1:dg-(k+1)=j:=by omega
  rw[hj] at hinv hrem hb35
  refine aV (mV hs44 (aS (v:=(iv k)) rfl (RL.nil (wsr (mV (v:=(iv dg)) ((hoff43 10 rfl).trans (hF39 10)) ?_)))))
  refine rV (eH (k:=.i64) (a:=(dg:Int)) (b:=1) (c:=(dg:Int)-1) rfl rfl (dJ oM)) (mV (v:=(iv k)) rfl (rV (eH (k:=.i64) (a:=(dg:Int)-1) (b:=(k:Int)) (c:=(j:Int)) rfl rfl ((dJ oM).trans oM)) (aS (v:=(iv j)) rfl (RL.nil (aV ?_)))))
  refine mV (v:=(.slice (some ⟨b33,0,none⟩) (dg) (dg))) ((hoff43 4 rfl).trans (hF39 4)) (mV (v:=(iv j)) rfl (mV (v:=(.slice (some ⟨b24,0,none⟩) (x.length+1) (x.length+1))) ((hoff43 9 rfl).trans (hF39 9)) (mV (v:=(iv j)) rfl (mV (v:=(iv j)) rfl (mV (v:=(iv (y.length:Nat))) ((hoff43 6 rfl).trans (hF39 6)) ?_)))))
  refine rV (dP (k:=.i64) (a:=(j:Int)) (b:=((y.length:Nat):Int)) (c:=(j:Int)+((y.length:Nat):Int)) rfl rfl (dJ oM)) (rV (dP (k:=.i64) (a:=(j:Int)+((y.length:Nat):Int)) (b:=1) (c:=((j:Int)+((y.length:Nat):Int))+1) rfl rfl (dJ oM)) ?_)
  obtain⟨pre,post,hpl,hAg,hback⟩:=hb26.win j (Lv.length+1) oM
  have hwin:=aLp lmu oM hVb.2 hrem
  refine rV (bAb (l:=(j:Int)) (h:=((j:Int)+((y.length:Nat):Int))+1) (j:=pre.length) (m:=Lv.length+1) bE bM rfl rfl rfl oM oM oM oM) (mV (v:=(.slice (some ⟨b14,0,none⟩) (y.length) (y.length+1))) ((hoff43 8 rfl).trans (hF39 8)) ?_)
  refine cL aZw (bAa (cap:=(x.length+1)-pre.length) hAg hV (λT h=>by have h:_=_:=h;omega) ((lmu.drop j).take _) lmv oM oM htopv hwin.1) rfl ?_
  rintro _ w46 ⟨rfl,⟨mid,hAgm,lmm,hmv⟩,hx47⟩
  replace hE:=hE.nb hx47 ge_b24
  replace hb26:=hback _ _ hAgm
  refine rV (aJ (i:=(j:Int)) bE bM rfl rfl oM oM) ?_
  replace hb35:=hb35.exc hx47 (Nat.ne_of_gt lt_b24_b33)
  refine RL.runs rfl rfl (oN (g:=(gN .u32)) (vv:=(.int .u32 (((val ((u.drop j).take (Lv.length+1))/val Lv:Nat):Int)))) (u:=val ((u.drop j).take (Lv.length+1))/val Lv) (i:=(j:Int)) bM rfl rfl rfl rfl rfl hb35 (j) oM oM) ?_
  rintro w48 ⟨ha49,hx50⟩
  replace hE:=hE.nb hx50 ge_b33
  replace hb35:=ha49
  refine RL.nil ?_
  have hml:mid.length=Lv.length+1:=hAgm.2
  have hnx:=aJd (n:=Lv.length) (q:=val ((u.drop j).take (Lv.length+1))/val Lv) oM hml hwin.2 rfl hmv hVp hinv
  refine aV (rV (dP (k:=.i64) (a:=(k:Int)) (b:=1) (c:=(k:Int)+1) hs44 rfl (dJ oM)) (mV (v:=(iv ((k:Int)+1))) rfl (RL.nil ?_)))
  replace hb26:=hb26.exc hx50 (Nat.ne_of_lt lt_b24_b33)
  replace hx:=(hx.tr (Sm.exc hx47 (λ_ _ _ _ hd=>absurd hd.2 (Nat.not_lt_of_le ge_b24)))).tr (Sm.exc hx50 (λ_ _ _ _ hd=>absurd hd.2 (Nat.not_lt_of_le ge_b33)))
  replace hy:=(hy.tr (Sm.exc hx47 (λ_ _ _ _ hd=>absurd hd.2 (Nat.not_lt_of_le ge_b24)))).tr (Sm.exc hx50 (λ_ _ _ _ hd=>absurd hd.2 (Nat.not_lt_of_le ge_b33)))
  replace hb16:=(hb16.exc hx47 (Nat.ne_of_lt lt_b14_b24)).exc hx50 (Nat.ne_of_lt (Nat.lt_trans lt_b14_b24 lt_b24_b33))
  replace hV:=(hV.tr (Sm.exc hx47 (λ_ _ _ _=>by exact λhd=>by have hd:_=_:=hd;omega))).tr (Sm.exc hx50 (λ_ _ _ _=>by exact λhd=>by have hd:_=_:=hd;omega))
  refine⟨(k+1,(u.take j++mid++u.drop (j+(Lv.length+1))),val ((u.drop j).take (Lv.length+1))/val Lv::Q),⟨?_,?_,?_,?_,?_,?_,?_,?_,?_,?_,?_,?_,?_,?_,?_,?_⟩,?_⟩
  ·exact(by repeat (first|exact hoff43|refine Off.st ?_ dC _))
  ·first|rfl|exact aQ oM|exact aD (by simp)
  ·omega
  ·rw[hnx.2.2];exact hul
  ·exact((lmu.take _).append lmm).append (lmu.drop _)
  ·rw[List.length_cons,hQl]
  ·exact λz hz=>by rcases List.mem_cons.1 hz with rfl|hz;exact(Nat.div_lt_iff_lt_mul hVp).2 (by rw[Nat.mul_comm];exact hwin.1);exact hQm z hz
  ·rw[hj1];exact hnx.1
  ·rw[hj1];exact hnx.2.1
  ·exact hb26
  ·rw[hj1];rw[bGp] at hb35;exact hb35
  ·exact hx
  ·exact hy
  ·exact hE
  ·exact hb16
  ·exact hV
  (try dsimp only)
  omega
 refine fB ?_
 refine bB ?_
 have hk0:dg-k=0:=by omega
 rw[hk0,List.replicate_zero,List.nil_append] at hb35
 rw[hk0,Nat.pow_zero,Nat.one_mul] at hinv
 rw[hk0,List.drop_zero] at hrem
 have hfin:=aLq rfl hLvv hinv hrem
 have hut:val (u.take y.length)=val u:=aAr oM (by rw[<-hLvl];exact Nat.lt_trans hrem hVb.2)
 refine aV (mV (v:=(.slice (some ⟨b24,0,none⟩) (x.length+1) (x.length+1))) ((hoff43 9 rfl).trans (hF39 9)) (mV (v:=(iv (y.length:Nat))) ((hoff43 6 rfl).trans (hF39 6)) ?_))
 have hU:=(hb26.sc (D:=(λb T=>w.heap.size<=b∧T=131)) (Nat.le_refl _) oM ⟨ge_b24,rfl⟩).take (y.length) oM rfl
 refine rV (aTw (h:=((y.length:Nat):Int)) (kk:=y.length) bE bM rfl rfl rfl oM) (mV (v:=(iv sh)) ((hoff43 7 rfl).trans (hF39 7)) ?_)
 refine cL aZx (bGu hU (lmu.take _) (by first|omega|(rw[List.length_take];omega)) hs) rfl ?_
 rintro _ w51 ⟨⟨vr53,rfl,hr54⟩,he52⟩
 replace hr54:=hr54.fr hE
 replace hE:=hE.nx he52
 refine mV (v:=(.tuple #[vr53,(.bool true)])) rfl (rV (aI (v:=vr53) rfl rfl) (rV (aI (v:=(.bool true)) rfl rfl) (aS (v:=vr53) rfl (RL.nil (wsr ?_)))))
 refine mV (v:=(.slice (some ⟨b33,0,none⟩) (dg) (dg))) ((hoff43 4 rfl).trans (hF39 4)) ?_
 replace hb35:=hb35.ext he52
 refine cL eN (fW (hb35.sc (D:=(λb T=>w.heap.size<=b∧T=131)) (Nat.le_refl _) oM ⟨ge_b33,rfl⟩) hQm (by first|omega|(simp;done)|(simp;omega))) rfl ?_
 rintro vr56 _ ⟨hr57,rfl⟩
 have hlv58:=bJ (x:=Q) hQm
 refine mV (v:=vr53) rfl (aS (v:=vr56) rfl (aS (v:=vr53) rfl (RL.nil ?_)))
 refine cE ?_
 refine⟨[vr56,vr53],⟨rfl,⟨rfl,trivial⟩⟩,?_⟩
 have h1:=hr57
 have h2:=hr54
 rw[hfin.1] at h1
 rw[hut,hfin.2] at h2
 exact⟨⟨_,_,rfl,h1,h2⟩,hE⟩
theorem aGg {n:Nat} (h:(aB n).length=1):(aB n).getD 0 default=n∧n<4294967296:=by
 have e:=aW n
 have hl:=aR n
 generalize aB n=l at*
 match l,h with
 |[d],_=>
  have:=hl d (by simp)
  simp[val] at e
  exact⟨by simp[e],by omega⟩
theorem aLs {n:Nat} (h:0<(aB n).length):(aB n).getD ((aB n).length-1) default≠0:=(aTx n).resolve_left oM
theorem mW {w:World} {Dx:Nat->TypeId->Prop} {vx:Value} {x:List Nat} (hx0:Sg (gN .u32) Dx w vx x) (lmx:Lm x) (lnx:x.length<=1099511627776) {Dy:Nat->TypeId->Prop} {vy:Value} {y:List Nat} (hy0:Sg (gN .u32) Dy w vy y) (lmy:Lm y) (lny:y.length<=1099511627776):
 Calls Tryz.prog 127 #[vx,vy] w λe w'=>∃v,e= .returned v∧(∃vq vr,v= .tuple #[vq,vr,.bool (decide (val y≠0))]∧Sg (gN .u32) (λb T=>w.heap.size<=b∧T=131) w' vq (aB (val x/val y))∧Sg (gN .u32) (λb T=>w.heap.size<=b∧T=131) w' vr (aB (kJ (val x) (val y))))∧Ext w w':=by
 have hE:Below w.heap.size w w:=Below.refl _ _
 have hx:=hx0.old
 clear hx0
 have hy:=hy0.old
 clear hy0
 have hlvx:=bJ lmx
 have hlvy:=bJ lmy
 refine bH (n:=62) (rs:=[.tmp 4,.tmp 5,.tmp 6]) func127 rfl rfl rfl bL ?_
 refine cV λF0 hF0=>?_
 refine wsr (aS (v:=(.slice none (0) (0))) rfl (aS (v:=(.slice none (0) (0))) rfl (aS (v:=(.bool false)) rfl (RL.nil (wsr ?_)))))
 refine mV (v:=vx) (hF0 0) ?_
 refine cL eN (fW hx (by assumption) (by first|omega|(simp;done)|(simp;omega))) rfl ?_
 rintro vr2 _ ⟨hr3,rfl⟩
 have hlv4:=bJ (x:=x) (by assumption)
 refine mV (v:=vy) (hF0 1) ?_
 refine cL eN (fW hy (by assumption) (by first|omega|(simp;done)|(simp;omega))) rfl ?_
 rintro vr6 _ ⟨hr7,rfl⟩
 have hlv8:=bJ (x:=y) (by assumption)
 refine aS (v:=vr2) rfl (aS (v:=vr6) rfl (RL.nil (bB ?_)))
 refine cF ?_
 refine wsr (mV (v:=vr6) rfl ?_)
 obtain⟨A9,c10,hv11,hc12,hc13⟩:=hr7.len
 refine rV (cK bE hv11) (rV (iW (k:=.i64) (a:=(((aB (val y)).length:Nat):Int)) (b:=0) rfl rfl) (aS (v:=(bd ((((aB (val y)).length:Nat):Int)=0))) rfl (RL.nil ?_)))
 refine wcD (p:=(((aB (val y)).length:Nat):Int)=0) rfl (λhb14 hb14p=>?_) (λhb14 hb14p=>?_)
 ·refine wsr ?_
  refine aS (v:=(.slice none (0) (0))) rfl (aS (v:=(.slice none (0) (0))) rfl (aS (v:=(.bool false)) rfl (RL.nil ?_)))
  refine cE ?_
  refine⟨[(.slice none (0) (0)),(.slice none (0) (0)),(.bool false)],⟨rfl,⟨rfl,⟨rfl,trivial⟩⟩⟩,?_⟩
  have hy0:val y=0:=eB.1 (by unfold len;omega)
  rw[hy0]
  exact⟨⟨_,_,rfl,by rw[Nat.div_zero];exact Sg.nil,Sg.nil⟩,hE⟩
 have hy0:val y≠0:=λh=>by rw[h,iE] at hb14p;exact hb14p rfl
 refine wsr (mV (v:=vr2) rfl (mV (v:=vr6) rfl ?_))
 refine cL mU (gO hr3 (aR _) oS hr7 (aR _) oS) rfl ?_
 rintro vq18 w15 ⟨hq17,he16⟩
 simp only[aW] at hq17
 subst hq17
 replace hE:=hE.nx he16
 refine rV (eQ (k:=.i64) (a:=cmpI (((val x):Nat):Int) (((val y):Nat):Int)) (b:=0) rfl rfl) (aS (v:=(bd ((cmpI (((val x):Nat):Int) (((val y):Nat):Int))<0))) rfl (RL.nil ?_))
 refine wcD (p:=(cmpI (((val x):Nat):Int) (((val y):Nat):Int))<0) rfl (λhb19 hb19p=>?_) (λhb19 hb19p=>?_)
 ·have hlt:val x<val y:=by have:=cmpI_neg.1 hb19p;omega
  refine wsr (mV (v:=vr2) rfl ?_)
  replace hr3:=hr3.tr (Sm.ext he16)
  refine cL xS (n_trim hr3 (aR _) oS) rfl ?_
  rintro vr22 w20 ⟨hr23,he21⟩
  try rw[aW] at hr23
  replace hr23:=hr23.fr hE
  replace hE:=hE.nx he21
  refine aS (v:=(.slice none (0) (0))) rfl (aS (v:=vr22) rfl (aS (v:=(.bool true)) rfl (RL.nil ?_)))
  refine cE ?_
  refine⟨[(.slice none (0) (0)),vr22,(.bool true)],⟨rfl,⟨rfl,⟨rfl,trivial⟩⟩⟩,?_⟩
  exact⟨⟨_,_,by rw[decide_eq_true (show val y≠0 by omega)];rfl,by rw[Nat.div_eq_of_lt hlt];exact Sg.nil,by rw[kJ,if_neg oM,Nat.mod_eq_of_lt hlt];exact hr23⟩,hE⟩
 have hge:val y<=val x:=by rcases Nat.lt_or_ge (val x) (val y) with h|h;exact absurd (cmpI_neg.2 oM) hb19p;exact h
 have hlen:(aB (val y)).length<=(aB (val x)).length:=cH hge
 refine wsr (mV (v:=vr2) rfl ?_)
 obtain⟨A24,c25,hv26,hc27,hc28⟩:=hr3.len
 refine rV (cK bE hv26) (rV (aKe (k:=.i64) (a:=(((aB (val x)).length:Nat):Int)) (b:=2) rfl rfl) (aS (v:=(bd ((((aB (val x)).length:Nat):Int)<=2))) rfl (RL.nil ?_)))
 refine wcD (p:=(((aB (val x)).length:Nat):Int)<=2) rfl (λhb29 hb29p=>?_) (λhb29 hb29p=>?_)
 ·have hx64:=iI.2 (show len (val x)<=2 by unfold len;omega)
  have hq64:val x/val y<18446744073709551616:=Nat.lt_of_le_of_lt (Nat.div_le_self _ _) hx64
  have hr64:val x%val y<18446744073709551616:=Nat.lt_of_le_of_lt (Nat.mod_le _ _) hx64
  refine wsr (mV (v:=vr2) rfl ?_)
  replace hr3:=hr3.tr (Sm.ext he16)
  refine cL uH (uI hr3 (aR _) oM) rfl ?_
  rintro vq32 _ ⟨hq31,rfl⟩
  rw[aW] at hq31
  subst hq31
  refine mV (v:=vr6) rfl ?_
  replace hr7:=hr7.tr (Sm.ext he16)
  refine cL uH (uI hr7 (aR _) oM) rfl ?_
  rintro vq35 _ ⟨hq34,rfl⟩
  rw[aW] at hq34
  subst hq34
  refine aS (v:=(.int .u64 ((((val x):Nat):Int)))) rfl (aS (v:=(.int .u64 ((((val y):Nat):Int)))) rfl (RL.nil (bB ?_)))
  refine fI fV λw36 he37=>?_
  replace hE:=hE.nx he37
  refine ra 0 rfl (λ_=>aG (v:=(.int .u64 ((((val x):Nat):Int)))) rfl) ?_
  refine ra 1 rfl (λ_=>aG (v:=(.int .u64 ((((val y):Nat):Int)))) rfl) ?_
  refine ra 2 rfl (λ_=>pJ (k:=.u64) (a:=(((val x):Nat):Int)) (b:=(((val y):Nat):Int)) (c:=((val x/val y:Nat):Int)) rfl rfl oM (quoN oM)) ?_
  refine ra 4 rfl (λ_=>aG (v:=(.int .u64 ((((val x):Nat):Int)))) rfl) ?_
  refine ra 5 rfl (λ_=>aG (v:=(.int .u64 ((((val y):Nat):Int)))) rfl) ?_
  refine ra 6 rfl (λ_=>sC (k:=.u64) (a:=(((val x):Nat):Int)) (b:=(((val y):Nat):Int)) (c:=((val x%val y:Nat):Int)) rfl rfl oM (aIx _ _)) ?_
  refine RA.all [3] kR rfl ?_
  refine RS.call rfl rfl rfl dC (bO (vl:=[(.int .u64 (((val x/val y:Nat):Int)))]) kL rfl) (kM oM) ?_ RS.nil
  rintro vr40 w38 ⟨hr41,he39⟩
  refine rm he39 ?_
  replace hr41:=hr41.fr hE
  replace hE:=hE.nx he39
  have hlv42:=kK (n:=val x/val y) oM
  refine RA.all [7] kR rfl ?_
  refine RS.call rfl rfl rfl dC (bO (vl:=[(.int .u64 (((val x%val y:Nat):Int)))]) kL rfl) (kM oM) ?_ RS.nil
  rintro vr45 w43 ⟨hr46,he44⟩
  refine rm he44 ?_
  replace hr46:=hr46.fr hE
  replace hE:=hE.nx he44
  have hlv47:=kK (n:=val x%val y) oM
  refine ra 8 rfl (λ_=>bS (v:=vr40) rfl) ?_
  refine ra 9 rfl (λ_=>bS (v:=vr45) rfl) ?_
  refine ra 10 rfl (λ_=>bS (v:=(.bool true)) rfl) ?_
  refine RA.done kR ?_
  refine cE ?_
  refine⟨[vr40,vr45,(.bool true)],⟨rfl,⟨rfl,⟨rfl,trivial⟩⟩⟩,?_⟩
  replace hr41:=hr41.tr (Sm.ext he44)
  exact⟨⟨_,_,by rw[decide_eq_true hy0];rfl,hr41,by rw[kJ,if_neg hy0];exact hr46⟩,hE⟩
 refine wsr (mV (v:=vr6) rfl (rV (cK bE hv11) (rV (iW (k:=.i64) (a:=(((aB (val y)).length:Nat):Int)) (b:=1) rfl rfl) (aS (v:=(bd ((((aB (val y)).length:Nat):Int)=1))) rfl (RL.nil ?_)))))
 refine wcD (p:=(((aB (val y)).length:Nat):Int)=1) rfl (λhb48 hb48p=>?_) (λhb48 hb48p=>?_)
 ·have hone:=aGg (n:=val y) oM
  have hone2:=hone.2
  refine wsr (mV (v:=vr2) rfl (mV (v:=vr6) rfl ?_))
  replace hr7:=hr7.tr (Sm.ext he16)
  obtain⟨b49,o50,c51,hv52,hc53⟩:=hr7.ix (i:=0) (0) oM oM
  rw[show(aB (val y)).getD (0) default=val y from hone.1] at hc53
  refine rV (aJ (i:=0) bE bM hv52 rfl oM oM) (rV (aY (v:=(.int .u32 (((val y:Nat):Int)))) bN dR rfl hc53) ?_)
  replace hr3:=hr3.tr (Sm.ext he16)
  refine cL aZs (bGv hr3 (aR _) oM (d:=val y) oM oM) rfl ?_
  rintro _ w54 ⟨⟨vq56,vr58,rfl,hq57,hr59⟩,he55⟩
  simp only[aW] at hq57 hr59
  replace hq57:=hq57.fr hE
  replace hr59:=hr59.fr hE
  replace hE:=hE.nx he55
  refine mV (v:=(.tuple #[vq56,vr58])) rfl (rV (aI (v:=vq56) rfl rfl) (rV (aI (v:=vr58) rfl rfl) (aS (v:=vq56) rfl (aS (v:=vr58) rfl (RL.nil ?_)))))
  refine wsr (mV (v:=vq56) rfl (mV (v:=vr58) rfl (aS (v:=vq56) rfl (aS (v:=vr58) rfl (aS (v:=(.bool true)) rfl ?_)))))
  refine RL.nil ?_
  refine cE ?_
  refine⟨[vq56,vr58,(.bool true)],⟨rfl,⟨rfl,⟨rfl,trivial⟩⟩⟩,?_⟩
  exact⟨⟨_,_,by rw[decide_eq_true hy0];rfl,hq57,by rw[kJ,if_neg hy0];exact hr59⟩,hE⟩
 have hy1:0<(aB (val y)).length:=by rcases Nat.eq_zero_or_pos (aB (val y)).length with h|h;exact absurd (eB.1 h) hy0;exact h
 have htz:=aLs hy1
 refine bW ?_
 refine wsr (mV (v:=vr2) rfl (mV (v:=vr6) rfl ?_))
 replace hr3:=hr3.tr (Sm.ext he16)
 replace hr7:=hr7.tr (Sm.ext he16)
 refine cL aZt (bAc hr3 (aR _) oM hr7 (aR _) oM oM htz hlen) rfl ?_
 rintro _ w62 ⟨⟨vq64,vr66,rfl,hq65,hr67⟩,he63⟩
 simp only[aW] at hq65 hr67
 replace hq65:=hq65.fr hE
 replace hr67:=hr67.fr hE
 replace hE:=hE.nx he63
 refine mV (v:=(.tuple #[vq64,vr66])) rfl (rV (aI (v:=vq64) rfl rfl) (rV (aI (v:=vr66) rfl rfl) (aS (v:=vq64) rfl (aS (v:=vr66) rfl (RL.nil ?_)))))
 refine wsr (mV (v:=vq64) rfl (mV (v:=vr66) rfl (aS (v:=vq64) rfl (aS (v:=vr66) rfl (aS (v:=(.bool true)) rfl ?_)))))
 refine RL.nil ?_
 refine cE ?_
 refine⟨[vq64,vr66,(.bool true)],⟨rfl,⟨rfl,⟨rfl,trivial⟩⟩⟩,?_⟩
 exact⟨⟨_,_,by rw[decide_eq_true hy0];rfl,hq65,by rw[kJ,if_neg hy0];exact hr67⟩,hE⟩
end Go.Proofs.YtlhdigjbokkbiaaGreat.W
namespace Go.Vm
def sgn (e:Bool):Int:=match e with
 |true=>1
 |false=>-1
theorem jZ (e:Bool):sgn (!e)=-sgn e:=by cases e<;>rfl
theorem aLt (e:Bool):sgn e*sgn e=1:=by cases e<;>rfl
structure Leh (A B h X Y x y u0 u1 u2 v0 v1 v2:Nat) (e:Bool):Prop where
 fx:A/h=X
 fy:B/h=Y
 hh:0<h
 i1:v2*x+v1*y=X
 i2:u2*x+u1*y=Y
 s1:(x:Int)=-sgn e*(u1*X-v1*Y)
 s2:(y:Int)=sgn e*(u2*X-v2*Y)
 le2:u2<=v2
 les:u1+u2<=v1+v2
 pos:1<=v2
 yx:y<=x
 det:(u1:Int)*v2-u2*v1=-sgn e
 st:(e=false∧u0=0∧v0=0∧u1=1∧v1=0∧u2=0∧v2=1)∨((u0:Int)*v1-u1*v0=sgn e∧0<=-sgn e*(u1*A-v1*B)∧-sgn e*(u1*A-v1*B)<=B∧
  (v0=0∨(-sgn e*(u1*A-v1*B)<sgn e*(u0*A-v0*B)∧sgn e*(u0*A-v0*B)<=B)))
theorem Leh.start {A B h:Nat} (hh:0<h) (hAB:B<=A):Leh A B h (A/h) (B/h) (A/h) (B/h) 0 1 0 0 0 1 false:=by
 refine⟨rfl,rfl,hh,by omega,by omega,?_,?_,by omega,by omega,by omega,Nat.div_le_div_right hAB,rfl,.inl ⟨rfl,rfl,rfl,rfl,rfl,rfl,rfl⟩⟩
 ·simp[sgn]
 simp[sgn]
theorem aGh {u v α β h:Int} (e:Bool) (hu:0<=u) (huv:u<=v) (ha:0<=α) (ha':α<=h-1) (hb:0<=β) (hb':β<=h-1):-(v*(h-1))<=sgn e*(u*α-v*β):=by
 have h1:u*α<=v*(h-1):=Int.le_trans (Int.mul_le_mul_of_nonneg_right huv ha) (Int.mul_le_mul_of_nonneg_left ha' oM)
 have h2:v*β<=v*(h-1):=Int.mul_le_mul_of_nonneg_left hb' oM
 have h3:0<=u*α:=Int.mul_nonneg hu ha
 have h4:0<=v*β:=Int.mul_nonneg oM hb
 cases e<;>simp only[sgn]<;>omega
theorem Leh.bounds {A B h X Y x y u0 u1 u2 v0 v1 v2:Nat} {e:Bool} (H:Leh A B h X Y x y u0 u1 u2 v0 v1 v2 e) (hy:1<=y):v1+v2<=X∧u1+u2<=Y∧v2<=X∧u2<=Y:=by
 have h1:=H.i1
 have h2:=H.i2
 have hx:1<=x:=Nat.le_trans hy H.yx
 have a1:=Nat.le_mul_of_pos_right v2 hx
 have a2:=Nat.le_mul_of_pos_right v1 hy
 have a3:=Nat.le_mul_of_pos_right u2 hx
 have a4:=Nat.le_mul_of_pos_right u1 hy
 omega
theorem Leh.step {A B h X Y x y u0 u1 u2 v0 v1 v2:Nat} {e:Bool} (H:Leh A B h X Y x y u0 u1 u2 v0 v1 v2 e) (c1:v2<=y) (c2:v1+v2<=x-y):
 Leh A B h X Y y (x%y) u1 u2 (u1+x/y*u2) v1 v2 (v1+x/y*v2) (!e)∧x%y<y∧v1+x/y*v2<=X∧u1+x/y*u2<=Y:=by
 have hy:1<=y:=Nat.le_trans H.pos c1
 have hdm:=Nat.div_add_mod x y
 have hlt:=Nat.mod_lt x hy
 have hx:=H.yx
 have hq:1<=x/y:=(Nat.one_le_div_iff hy).2 hx
 generalize hqq:x/y=q at*
 generalize hrr:x%y=r at*
 have hxr:(x:Int)=y*q+r:=by exact_mod_cast hdm.symm
 obtain⟨α,hα,hα1⟩:∃α:Int,(A:Int)=X*h+α∧0<=α∧α<=h-1:=by
  refine⟨(A%h:Nat),?_,by omega,by have:=Nat.mod_lt A H.hh;omega⟩
  have:=Nat.div_add_mod A h
  rw[H.fx] at this
  rw[<-Int.natCast_mul,<-Int.natCast_add,Nat.mul_comm,this]
 obtain⟨β,hβ,hβ1⟩:∃β:Int,(B:Int)=Y*h+β∧0<=β∧β<=h-1:=by
  refine⟨(B%h:Nat),?_,by omega,by have:=Nat.mod_lt B H.hh;omega⟩
  have:=Nat.div_add_mod B h
  rw[H.fy] at this
  rw[<-Int.natCast_mul,<-Int.natCast_add,Nat.mul_comm,this]
 have hhI:(1:Int)<=h:=by have:=H.hh;omega
 have n1:sgn e*(u2*A-v2*B)=y*h+sgn e*(u2*α-v2*β):=by
  rw[hα,hβ,H.s2]
  grind
 have n0:-sgn e*(u1*A-v1*B)-sgn e*(u2*A-v2*B)=(x-y)*h+sgn (!e)*((u1+u2)*α-(v1+v2)*β):=by
  rw[hα,hβ,jZ]
  have t1:=H.s1
  have t2:=H.s2
  rw[Int.sub_mul,t1,t2]
  grind
 have l1:=aGh (u:=u2) (v:=v2) (α:=α) (β:=β) (h:=h) e oM (by have:=H.le2;omega) hα1.1 hα1.2 hβ1.1 hβ1.2
 have l0:=aGh (u:=u1+u2) (v:=v1+v2) (α:=α) (β:=β) (h:=h) (!e) oM (by have:=H.les;omega) hα1.1 hα1.2 hβ1.1 hβ1.2
 have m1:(v2:Int)*h<=y*h:=Int.mul_le_mul_of_nonneg_right oM oM
 have m0:((v1:Int)+v2)*h<=(x-y)*h:=Int.mul_le_mul_of_nonneg_right oM oM
 have e1:(v2:Int)*(h-1)=v2*h-v2:=by rw[Int.mul_sub,Int.mul_one]
 have e0:((v1:Int)+v2)*(h-1)=(v1+v2)*h-(v1+v2):=by rw[Int.mul_sub,Int.mul_one]
 have hp:=H.pos
 have p1:0<=sgn e*(u2*A-v2*B):=by rw[n1];omega
 have p0:sgn e*(u2*A-v2*B)< -sgn e*(u1*A-v1*B):=by omega
 have H':Leh A B h X Y y r u1 u2 (u1+q*u2) v1 v2 (v1+q*v2) (!e):=by
  refine⟨H.fx,H.fy,H.hh,?_,?_,?_,?_,?_,?_,?_,by omega,?_,?_⟩
  ·have:=H.i1;grind
  ·have:=H.i2;grind
  ·rw[jZ,Int.neg_neg];exact H.s2
  ·have t1:=H.s1
   have t2:=H.s2
   rw[jZ]
   have:(r:Int)=x-y*q:=by omega
   rw[this,t1]
   have t3:(y:Int)*q=sgn e*(u2*X-v2*Y)*q:=by rw[<-t2]
   rw[t3]
   push_cast
   grind
  ·have a:=H.le2
   have b:=H.les
   have c:=Nat.mul_le_mul_left (q-1) a
   have d1:q*u2=(q-1)*u2+u2:=by rw[<-Nat.succ_mul,Nat.succ_eq_add_one,Nat.sub_add_cancel hq]
   have d2:q*v2=(q-1)*v2+v2:=by rw[<-Nat.succ_mul,Nat.succ_eq_add_one,Nat.sub_add_cancel hq]
   omega
  ·have a:=H.le2
   have b:=H.les
   have c:=Nat.mul_le_mul_left (q-1) a
   have d1:q*u2=(q-1)*u2+u2:=by rw[<-Nat.succ_mul,Nat.succ_eq_add_one,Nat.sub_add_cancel hq]
   have d2:q*v2=(q-1)*v2+v2:=by rw[<-Nat.succ_mul,Nat.succ_eq_add_one,Nat.sub_add_cancel hq]
   omega
  ·have:=Nat.le_mul_of_pos_left v2 hq
   omega
  ·have:=H.det
   rw[jZ]
   push_cast
   grind
  right
  refine⟨by rw[jZ];exact H.det,by rw[jZ,Int.neg_neg];exact p1,?_,?_⟩
  ·rw[jZ,Int.neg_neg]
   rcases H.st with ⟨he,_,_,_,_,hu2,hv2⟩|⟨_,_,h3,_⟩
   ·subst he hu2 hv2
    simp[sgn]
   omega
  rcases H.st with ⟨_,_,_,_,hv1,_,_⟩|⟨_,_,h3,_⟩
  ·exact .inl hv1
  right
  rw[jZ,Int.neg_neg]
  exact⟨p0,h3⟩
 refine⟨H',hlt,?_,?_⟩
 ·have t:=H'.i1
  have:=Nat.le_mul_of_pos_right (v1+q*v2) hy
  omega
 have t:=H'.i2
 have:=Nat.le_mul_of_pos_right (u1+q*u2) hy
 omega
theorem Leh.fin {A B h X Y x y u0 u1 u2 v0 v1 v2:Nat} {e:Bool} (H:Leh A B h X Y x y u0 u1 u2 v0 v1 v2 e) (hv:v0≠0):
 (e=true->v0*B<=u0*A∧u1*A<=v1*B∧Nat.gcd (u0*A-v0*B) (v1*B-u1*A)=Nat.gcd A B∧v1*B-u1*A<u0*A-v0*B∧u0*A-v0*B<=B)∧
 (e=false->u0*A<=v0*B∧v1*B<=u1*A∧Nat.gcd (v0*B-u0*A) (u1*A-v1*B)=Nat.gcd A B∧u1*A-v1*B<v0*B-u0*A∧v0*B-u0*A<=B):=by
 rcases H.st with ⟨_,_,h,_⟩|⟨hd,h1,h2,h3⟩
 ·exact absurd h hv
 have h3:=h3.resolve_left hv
 have key:∀a b:Nat,(a:Int)=sgn e*(u0*A-v0*B)->(b:Int)=-sgn e*(u1*A-v1*B)->Nat.gcd a b=Nat.gcd A B:=by
  intro a b ha hb
  have k1:A=v1*a+v0*b:=by
   have:(A:Int)=v1*a+v0*b:=by
    rw[ha,hb]
    have:=aLt e
    have e2:(v1:Int)*(sgn e*(u0*A-v0*B))+v0*(-sgn e*(u1*A-v1*B))=sgn e*A*(u0*v1-u1*v0):=by grind
    rw[e2,hd]
    grind
   exact_mod_cast this
  have k2:B=u1*a+u0*b:=by
   have:(B:Int)=u1*a+u0*b:=by
    rw[ha,hb]
    have:=aLt e
    have e2:(u1:Int)*(sgn e*(u0*A-v0*B))+u0*(-sgn e*(u1*A-v1*B))=sgn e*B*(u0*v1-u1*v0):=by grind
    rw[e2,hd]
    grind
   exact_mod_cast this
  apply Nat.dvd_antisymm
  ·refine Nat.dvd_gcd ?_ ?_
   ·rw[k1];exact Nat.dvd_add (Nat.dvd_trans (Nat.gcd_dvd_left a b) (Nat.dvd_mul_left ..)) (Nat.dvd_trans (Nat.gcd_dvd_right a b) (Nat.dvd_mul_left ..))
   rw[k2];exact Nat.dvd_add (Nat.dvd_trans (Nat.gcd_dvd_left a b) (Nat.dvd_mul_left ..)) (Nat.dvd_trans (Nat.gcd_dvd_right a b) (Nat.dvd_mul_left ..))
  have hA:((Nat.gcd A B:Nat):Int)∣(A:Int):=Int.natCast_dvd_natCast.2 (Nat.gcd_dvd_left A B)
  have hB:((Nat.gcd A B:Nat):Int)∣(B:Int):=Int.natCast_dvd_natCast.2 (Nat.gcd_dvd_right A B)
  refine Nat.dvd_gcd ?_ ?_
  ·rw[<-Int.natCast_dvd_natCast,ha]
   exact Int.dvd_trans (Int.dvd_sub (Int.dvd_trans hA (Int.dvd_mul_left ..)) (Int.dvd_trans hB (Int.dvd_mul_left ..))) (Int.dvd_mul_left ..)
  rw[<-Int.natCast_dvd_natCast,hb]
  exact Int.dvd_trans (Int.dvd_sub (Int.dvd_trans hA (Int.dvd_mul_left ..)) (Int.dvd_trans hB (Int.dvd_mul_left ..))) (Int.dvd_mul_left ..)
 constructor
 ·intro he
  subst he
  simp only[sgn,Int.one_mul,Int.neg_mul] at h1 h2 h3 key
  have c1:v0*B<=u0*A:=by
   have:(v0:Int)*B<=u0*A:=by omega
   exact_mod_cast this
  have c2:u1*A<=v1*B:=by
   have:(u1:Int)*A<=v1*B:=by omega
   exact_mod_cast this
  have w1:((u0*A-v0*B:Nat):Int)=u0*A-v0*B:=by rw[Int.natCast_sub c1];push_cast;rfl
  have w2:((v1*B-u1*A:Nat):Int)=v1*B-u1*A:=by rw[Int.natCast_sub c2];push_cast;rfl
  refine⟨c1,c2,key _ _ w1 (by rw[w2];omega),?_,?_⟩
  ·have:((v1*B-u1*A:Nat):Int)<((u0*A-v0*B:Nat):Int):=by rw[w1,w2];omega
   exact_mod_cast this
  have:((u0*A-v0*B:Nat):Int)<=(B:Int):=by rw[w1];omega
  exact_mod_cast this
 intro he
 subst he
 simp only[sgn,Int.one_mul,Int.neg_mul,Int.neg_neg] at h1 h2 h3 key
 have c1:u0*A<=v0*B:=by
  have:(u0:Int)*A<=v0*B:=by omega
  exact_mod_cast this
 have c2:v1*B<=u1*A:=by
  have:(v1:Int)*B<=u1*A:=by omega
  exact_mod_cast this
 have w1:((v0*B-u0*A:Nat):Int)=v0*B-u0*A:=by rw[Int.natCast_sub c1];push_cast;rfl
 have w2:((u1*A-v1*B:Nat):Int)=u1*A-v1*B:=by rw[Int.natCast_sub c2];push_cast;rfl
 refine⟨c1,c2,key _ _ (by rw[w1];omega) w2,?_,?_⟩
 ·have:((u1*A-v1*B:Nat):Int)<((v0*B-u0*A:Nat):Int):=by rw[w1,w2];omega
  exact_mod_cast this
 have:((v0*B-u0*A:Nat):Int)<=(B:Int):=by rw[w1];omega
 exact_mod_cast this
theorem aUo {x:List Nat} {n s:Nat} (lm:Lm x) (hn:3<=n) (hl:x.length<=n) (hs:s<=31):val x/(4294967296^(n-3)*2^(32-s))=(dig x (n-1)*4294967296+dig x (n-2))*2^s+dig x (n-3)/2^(32-s):=by
 rw[<-Nat.div_div_eq_div_mul,jB lm,fP,show n-3+1=n-2 by omega,fP x (n-2),show n-2+1=n-1 by omega,fP x (n-1),List.drop_of_length_le oM]
 have e:(4294967296:Nat)=2^(32-s)*2^s:=by rw[<-Nat.pow_add,show 32-s+s=32 by omega]
 have hp:0<2^(32-s):=Nat.pow_pos dC
 simp only[val,Nat.mul_zero,Nat.add_zero]
 have e2:dig x (n-3)+4294967296*(dig x (n-2)+4294967296*dig x (n-1))=dig x (n-3)+2^(32-s)*((dig x (n-1)*4294967296+dig x (n-2))*2^s):=by
  congr 1
  rw[Nat.add_comm (dig x (n-2)),Nat.mul_comm 4294967296 (dig x (n-1)),Nat.mul_comm ((dig x (n-1)*4294967296+dig x (n-2))) (2^s),<-Nat.mul_assoc,<-e]
 rw[e2,Nat.add_mul_div_left _ _ hp,Nat.add_comm]
theorem aUp {d1 d2 d3 s:Nat} (hs:s<=31) (h1:d1*2^s<4294967296) (h2:d2<4294967296) (h3:d3<4294967296):(d1*4294967296+d2)*2^s+d3/2^(32-s)<18446744073709551616∧(d1*4294967296+d2)*2^s<18446744073709551616∧d3/2^(32-s)<2^s:=by
 have e:(4294967296:Nat)=2^(32-s)*2^s:=by rw[<-Nat.pow_add,show 32-s+s=32 by omega]
 have hp:0<2^(32-s):=Nat.pow_pos dC
 have h5:d3/2^(32-s)<2^s:=(Nat.div_lt_iff_lt_mul hp).2 (by rw[Nat.mul_comm,<-e];exact h3)
 have h4:(d1+1)*2^s<=4294967296:=by
  rw[e] at h1 ⊢
  exact Nat.mul_le_mul_right _ (Nat.lt_of_mul_lt_mul_right h1)
 have h6:(d1*4294967296+d2+1)*2^s<=18446744073709551616:=by
  have h7:(d1*4294967296+d2+1)*2^s<=((d1+1)*4294967296)*2^s:=Nat.mul_le_mul_right _ oM
  have h8:((d1+1)*4294967296)*2^s=((d1+1)*2^s)*4294967296:=by rw[Nat.mul_right_comm]
  omega
 rw[Nat.add_mul,Nat.one_mul] at h6
 generalize d3/2^(32-s)=r at*
 exact⟨by omega,by omega,h5⟩
theorem aGi {x:List Nat} {n:Nat} (lm:Lm x) (h1:1<=n) (hl:x.length<=n):dig x (n-1)=val x/4294967296^(n-1):=by
 rw[jB lm,fP,show n-1+1=n by omega,List.drop_of_length_le hl]
 simp[val]
theorem aLu {x y:List Nat} {n:Nat} (lx:Lm x) (ly:Lm y) (h1:1<=n) (hx:x.length<=n) (hy:y.length<=n) (h:val y<=val x):dig y (n-1)<=dig x (n-1):=by
 rw[aGi lx h1 hx,aGi ly h1 hy]
 exact Nat.div_le_div_right h
end Go.Vm
namespace Go.Proofs.YtlhdigjbokkbiaaGreat.W
open Go.Vg Go.RowKit _root_.Go.Proofs.Tryz
open Go.Vm
theorem bNi {x s:Nat} (hs:s<=31) (h:x*2^s<18446744073709551616):IntKind.u64.wrap ((x:Int)*2^(min (s:Int).toNat IntKind.u64.bits))=((x*2^s:Nat):Int):=by
 rw[Int.toNat_natCast,show min s IntKind.u64.bits=s from Nat.min_eq_left (Nat.le_trans hs dC)]
 rw[show((x:Int)*2^s)=((x*2^s:Nat):Int) by simp]
 generalize x*2^s=p at*
 exact cX oM
theorem bNj {x s:Nat} (hs:s<=32):(x:Int).fdiv (2^(min (s:Int).toNat IntKind.u64.bits))=((x/2^s:Nat):Int):=by
 rw[Int.toNat_natCast,show min s IntKind.u64.bits=s from Nat.min_eq_left (Nat.le_trans hs dC),Int.fdiv_eq_ediv_of_nonneg _ (Int.le_of_lt (Int.pow_pos dC))]
 simp
theorem orW {c x s:Nat} (hc:c<2^s) (hb:x*2^s+c<18446744073709551616):IntKind.u64.wrap ((BitVec.ofInt IntKind.u64.bits ((x*2^s:Nat):Int)|||BitVec.ofInt IntKind.u64.bits (c:Int)).toNat:Int)=((x*2^s+c:Nat):Int):=by
 have h:=orS (x:=x) hc (by rw[Nat.add_comm];exact hb)
 rw[Nat.add_comm,<-h]
 congr 2
 exact congrArg BitVec.toNat (BitVec.or_comm _ _)
theorem aCw {w:World} {D:Nat->TypeId->Prop} {vx:Value} {x:List Nat} {b i:Nat} (hb:Bk w b 47 [vx]) (hx:Sg (gN .u32) D w vx x) (lmx:Lm x) (hi:i<=9223372036854775807):
 Calls Tryz.prog 186 #[(iv i),(.pointer (some ⟨b,0,none⟩))] w λe w'=>∃v,e= .returned v∧v= .int .u64 ((dig x i:Nat):Int)∧w=w':=by
 refine bH (n:=13) (rs:=[.tmp 3]) func186 rfl rfl rfl bL ?_
 refine cV λF0 hF0=>?_
 refine wsr (aS (v:=(.int .u64 0)) rfl (RL.nil (bB (wsr (mV (v:=(iv i)) (hF0 0) ?_)))))
 have hc1:=hb.cell (j:=0) (u:=vx) rfl
 refine rV (aY bE jA (hF0 1) hc1) ?_
 obtain⟨A2,c3,hv4,hc5,hc6⟩:=hx.len
 refine rV (cK bE hv4) (rV (eQ (k:=.i64) (a:=(i:Int)) (b:=((x.length:Nat):Int)) rfl rfl) (RL.nil ?_))
 refine wcD (p:=(i:Int)<((x.length:Nat):Int)) rfl (λhb7 hb7p=>?_) (λhb7 hb7p=>?_)
 ·have hil:i<x.length:=by omega
  have hxi:=lmx.at hil
  refine wsr ?_
  have hc8:=hb.cell (j:=0) (u:=vx) rfl
  refine rV (aY bE jA (hF0 1) hc8) (mV (v:=(iv i)) (hF0 0) ?_)
  obtain⟨b9,o10,c11,hv12,hc13⟩:=hx.ix (i:=(i:Int)) (i) oM oM
  refine rV (aJ (i:=(i:Int)) bE bM hv12 rfl oM oM) (rV (aY (v:=(.int .u32 (((x.getD (i) default:Nat):Int)))) bN dR rfl hc13) (rV (bR (k:=.u64) (a:=((x.getD (i) default:Nat):Int)) (c:=((x.getD (i) default:Nat):Int)) bN dB rfl (cX oM)) (aS (v:=(.int .u64 (((x.getD (i) default:Nat):Int)))) rfl (RL.nil ?_))))
  refine cE ?_
  refine⟨[(.int .u64 (((x.getD (i) default:Nat):Int)))],⟨rfl,trivial⟩,?_⟩
  exact⟨aQ (by rw[gV hil]),rfl⟩
 refine bW ?_
 refine wsr (aS (v:=(.int .u64 0)) rfl (RL.nil ?_))
 refine cE ?_
 refine⟨[(.int .u64 0)],⟨rfl,trivial⟩,?_⟩
 exact⟨aQ (by rw[kQ oM];rfl),rfl⟩
theorem aAs {w:World} {Dx:Nat->TypeId->Prop} {vx:Value} {x:List Nat} (hx0:Sg (gN .u32) Dx w vx x) (lmx:Lm x) (lnx:x.length<=1099511627776) {n sh:Nat} (hs:sh<=31) (hn3:3<=n) (hln:x.length<=n) (hnb:n<=1099511627776) (htop:dig x (n-1)*2^sh<4294967296):
 Calls Tryz.prog 173 #[vx,(iv n),(iv sh)] w λe w'=>∃v,e= .returned v∧(v= .int .u64 ((val x/(4294967296^(n-3)*2^(32-sh)):Nat):Int)∧val x/(4294967296^(n-3)*2^(32-sh))<18446744073709551616)∧Ext w w':=by
 have hE:Below w.heap.size w w:=Below.refl _ _
 have hx:=hx0.old
 clear hx0
 have hlvx:=bJ lmx
 refine bH (n:=29) (rs:=[.tmp 6]) func173 rfl rfl rfl bL ?_
 refine cV λF0 hF0=>?_
 refine wsr ?_
 refine rU (fZ (vv:=vx) (cs:=[vx]) (hF0 0) (rD hx.one)) ?_
 rintro _ w1 ⟨b2,rfl,hs5,hb4,he3⟩
 have ge_b2:=hE.ge hs5
 replace hE:=hE.nx he3
 refine aS (v:=(.int .u64 0)) rfl (RL.nil (wsr (rV (aCm (vl:=[(.pointer (some ⟨b2,0,none⟩))]) rfl) (aS (v:=(.func (.func 186) #[] #[(.pointer (some ⟨b2,0,none⟩))])) rfl (RL.nil ?_)))))
 refine bB ?_
 have hd1:=kH lmx (n-1)
 have hd2:=kH lmx (n-2)
 have hd3:=kH lmx (n-3)
 have hfit:=aUp hs htop hd2 hd3
 have hwin:=aUo lmx hn3 hln hs
 refine fI fV λw6 he7=>?_
 replace hE:=hE.nx he7
 refine ra 0 rfl (λ_=>aG (v:=(.func (.func 186) #[] #[(.pointer (some ⟨b2,0,none⟩))])) rfl) ?_
 refine ra 1 rfl (λ_=>aG (v:=(iv n)) (hF0 1)) ?_
 refine ra 2 rfl (λ_=>eH (k:=.i64) (a:=(n:Int)) (b:=1) (c:=((n-1:Nat):Int)) rfl rfl ((dJ oM).trans oM)) ?_
 refine ra 5 rfl (λ_=>aG (v:=(.func (.func 186) #[] #[(.pointer (some ⟨b2,0,none⟩))])) rfl) ?_
 refine ra 6 rfl (λ_=>aG (v:=(iv n)) (hF0 1)) ?_
 refine ra 7 rfl (λ_=>eH (k:=.i64) (a:=(n:Int)) (b:=2) (c:=((n-2:Nat):Int)) rfl rfl ((dJ oM).trans oM)) ?_
 refine ra 10 rfl (λ_=>aG (v:=(iv sh)) (hF0 2)) ?_
 refine ra 12 rfl (λ_=>aG (v:=(.func (.func 186) #[] #[(.pointer (some ⟨b2,0,none⟩))])) rfl) ?_
 refine ra 13 rfl (λ_=>aG (v:=(iv n)) (hF0 1)) ?_
 refine ra 14 rfl (λ_=>eH (k:=.i64) (a:=(n:Int)) (b:=3) (c:=((n-3:Nat):Int)) rfl rfl ((dJ oM).trans oM)) ?_
 refine ra 16 rfl (λ_=>aG (v:=(iv sh)) (hF0 2)) ?_
 refine ra 17 rfl (λ_=>eH (k:=.i64) (a:=32) (b:=(sh:Int)) (c:=((32-sh:Nat):Int)) rfl rfl ((dJ oM).trans oM)) ?_
 refine RA.all [3] kR rfl ?_
 replace hb4:=hb4.ext he7
 replace hx:=hx.tr (Sm.ext (Ext.trans he3 he7))
 refine RS.call rfl rfl rfl dC (xN (vl:=[(iv (n-1:Nat))]) (cl:=[(.pointer (some ⟨b2,0,none⟩))]) rfl aCt rfl) (aCw (i:=n-1) hb4 hx lmx oM) ?_ RS.nil
 rintro _ _ ⟨rfl,rfl⟩
 refine rm (Ext.refl _) ?_
 refine ra 4 rfl (λ_=>pL (k:=.u64) (a:=((dig x (n-1):Nat):Int)) (b:=32) (c:=(((dig x (n-1))*4294967296:Nat):Int)) rfl rfl dC (shl32 hd1)) ?_
 refine RA.all [8] kR rfl ?_
 refine RS.call rfl rfl rfl dC (xN (vl:=[(iv (n-2:Nat))]) (cl:=[(.pointer (some ⟨b2,0,none⟩))]) rfl aCt rfl) (aCw (i:=n-2) hb4 hx lmx oM) ?_ RS.nil
 rintro _ _ ⟨rfl,rfl⟩
 refine rm (Ext.refl _) ?_
 refine ra 9 rfl (λ_=>xM (k:=.u64) (a:=(((dig x (n-1))*4294967296:Nat):Int)) (b:=((dig x (n-2):Nat):Int)) (c:=(((dig x (n-1))*4294967296+(dig x (n-2)):Nat):Int)) rfl rfl (or32 hd1 hd2)) ?_
 refine ra 11 rfl (λ_=>pL (k:=.u64) (a:=(((dig x (n-1))*4294967296+(dig x (n-2)):Nat):Int)) (b:=(sh:Int)) (c:=((((dig x (n-1))*4294967296+(dig x (n-2)))*2^sh:Nat):Int)) rfl rfl oM (bNi hs hfit.2.1)) ?_
 refine RA.all [15] kR rfl ?_
 refine RS.call rfl rfl rfl dC (xN (vl:=[(iv (n-3:Nat))]) (cl:=[(.pointer (some ⟨b2,0,none⟩))]) rfl aCt rfl) (aCw (i:=n-3) hb4 hx lmx oM) ?_ RS.nil
 rintro _ _ ⟨rfl,rfl⟩
 refine rm (Ext.refl _) ?_
 refine ra 18 rfl (λ_=>jM (k:=.u64) (a:=((dig x (n-3):Nat):Int)) (b:=((32-sh:Nat):Int)) (c:=(((dig x (n-3))/2^(32-sh):Nat):Int)) rfl rfl oM (bNj oM)) ?_
 refine ra 19 rfl (λ_=>xM (k:=.u64) (a:=((((dig x (n-1))*4294967296+(dig x (n-2)))*2^sh:Nat):Int)) (b:=(((dig x (n-3))/2^(32-sh):Nat):Int)) (c:=(((((dig x (n-1))*4294967296+(dig x (n-2)))*2^sh+(dig x (n-3))/2^(32-sh)):Nat):Int)) rfl rfl (orW hfit.2.2 hfit.1)) ?_
 refine ra 20 rfl (λ_=>bS (v:=(.int .u64 ((((((dig x (n-1))*4294967296+(dig x (n-2)))*2^sh+(dig x (n-3))/2^(32-sh)):Nat):Int)))) rfl) ?_
 refine RA.done kR ?_
 refine cE ?_
 refine⟨[(.int .u64 ((((((dig x (n-1))*4294967296+(dig x (n-2)))*2^sh+(dig x (n-3))/2^(32-sh)):Nat):Int)))],⟨rfl,trivial⟩,?_⟩
 rw[hwin]
 exact⟨⟨rfl,hfit.1⟩,hE⟩
theorem aJe {w:World} {Dx:Nat->TypeId->Prop} {vx:Value} {x:List Nat} (hx0:Sg (gN .u32) Dx w vx x) (lmx:Lm x) (lnx:x.length<=1099511627776) {Dy:Nat->TypeId->Prop} {vy:Value} {y:List Nat} (hy0:Sg (gN .u32) Dy w vy y) (lmy:Lm y) (lny:y.length<=1099511627776) (hl3:3<=x.length) (htz:x.getD (x.length-1) default≠0) (hyx:y.length<=x.length) (hle:val y<=val x):
 Calls Tryz.prog 149 #[vx,vy] w λe w'=>∃v,e= .returned v∧(∃(u0 u1 v0 v1:Nat) (e:Bool),v= .agg #[.int .u64 (u0:Int),.int .u64 (u1:Int),.int .u64 (v0:Int),.int .u64 (v1:Int),.bool e]∧u0<18446744073709551616∧u1<18446744073709551616∧v0<18446744073709551616∧v1<18446744073709551616∧(v0≠0->(e=true->v0*val y<=u0*val x∧u1*val x<=v1*val y∧Nat.gcd (u0*val x-v0*val y) (v1*val y-u1*val x)=Nat.gcd (val x) (val y)∧v1*val y-u1*val x<u0*val x-v0*val y∧u0*val x-v0*val y<=val y)∧(e=false->u0*val x<=v0*val y∧v1*val y<=u1*val x∧Nat.gcd (v0*val y-u0*val x) (u1*val x-v1*val y)=Nat.gcd (val x) (val y)∧u1*val x-v1*val y<v0*val y-u0*val x∧v0*val y-u0*val x<=val y)))∧Ext w w':=by
 have hE:Below w.heap.size w w:=Below.refl _ _
 have hx:=hx0.old
 clear hx0
 have hy:=hy0.old
 clear hy0
 have hlvx:=bJ lmx
 have hlvy:=bJ lmy
 refine bH (n:=74) (rs:=[.cell 4 171]) func149 rfl rfl rfl bL ?_
 refine cV λF0 hF0=>?_
 refine wsr ?_
 refine rU (cZ (cs:=[(.int .u64 0),(.int .u64 0),(.int .u64 0),(.int .u64 0),(.bool false)]) pQ rfl) ?_
 rintro _ w1 ⟨b2,rfl,hs5,hb4,he3⟩
 have ge_b2:=hE.ge hs5
 replace hE:=hE.nx he3
 refine RL.nil (wsr (mV (v:=vx) (hF0 0) ?_))
 obtain⟨A6,c7,hv8,hc9,hc10⟩:=hx.len
 refine rV (cK bE hv8) (aS (v:=(iv (x.length:Nat))) rfl (RL.nil (bB ?_)))
 have htl:=lmx.at (k:=x.length-1) oM
 refine aV (mV (v:=vx) (hF0 0) (mV (v:=(iv (x.length:Nat))) rfl (rV (eH (k:=.i64) (a:=((x.length:Nat):Int)) (b:=1) (c:=((x.length:Nat):Int)-1) rfl rfl (dJ oM)) ?_)))
 replace hx:=hx.tr (Sm.ext he3)
 obtain⟨b11,o12,c13,hv14,hc15⟩:=hx.ix (i:=((x.length:Nat):Int)-1) (x.length-1) oM oM
 refine rV (aJ (i:=((x.length:Nat):Int)-1) bE bM hv14 rfl oM oM) (rV (aY (v:=(.int .u32 (((x.getD (x.length-1) default:Nat):Int)))) bN dR rfl hc15) ?_)
 refine cL aLa (wW (x:=x.getD (x.length-1) default) _ htz htl) rfl ?_
 rintro _ _ ⟨⟨sh,rfl,hs,hz1,hz2⟩,rfl⟩
 refine aS (v:=(iv sh)) rfl (RL.nil (bB ?_))
 have htx:dig x (x.length-1)*2^sh<4294967296:=by rw[gV oM];exact hz2
 have hty:dig y (x.length-1)*2^sh<4294967296:=Nat.lt_of_le_of_lt (Nat.mul_le_mul_right _ (aLu lmx lmy oM (Nat.le_refl _) hyx hle)) htx
 refine aV (mV (v:=vx) (hF0 0) (mV (v:=(iv (x.length:Nat))) rfl (mV (v:=(iv sh)) rfl ?_)))
 refine cL aLb (aAs hx (by assumption) oM hs hl3 oM oM htx) rfl ?_
 rintro _ w17 ⟨⟨rfl,hb19⟩,he18⟩
 have hX64:=hb19
 replace hE:=hE.nx he18
 refine mV (v:=vy) (hF0 1) (mV (v:=(iv (x.length:Nat))) rfl (mV (v:=(iv sh)) rfl ?_))
 replace hy:=hy.tr (Sm.ext (Ext.trans he3 he18))
 refine cL aLb (aAs hy (by assumption) oM hs hl3 oM oM hty) rfl ?_
 rintro _ w20 ⟨⟨rfl,hb22⟩,he21⟩
 have hY64:=hb22
 replace hE:=hE.nx he21
 refine aS (v:=(.int .u64 ((((val x)/(4294967296^(x.length-3)*2^(32-sh)):Nat):Int)))) rfl (aS (v:=(.int .u64 ((((val y)/(4294967296^(x.length-3)*2^(32-sh)):Nat):Int)))) rfl (RL.nil (bB ?_)))
 have hhp:0<(4294967296^(x.length-3)*2^(32-sh)):=Nat.mul_pos (Nat.pow_pos dC) (Nat.pow_pos dC)
 refine aV (aS (v:=(.int .u64 0)) rfl (aS (v:=(.int .u64 1)) rfl (aS (v:=(.int .u64 0)) rfl (RL.nil (wsr ?_)))))
 refine aS (v:=(.int .u64 0)) rfl (aS (v:=(.int .u64 0)) rfl (aS (v:=(.int .u64 1)) rfl (RL.nil (wsr (aS (v:=(.bool false)) rfl ?_)))))
 refine RL.nil (bB ?_)
 refine cF ?_
 refine cV λF23 hF24=>?_
 refine fU (σ:=Nat×Nat×Nat×Nat×Nat×Nat×Nat×Nat×Bool) (λ(s:Nat×Nat×Nat×Nat×Nat×Nat×Nat×Nat×Bool) fl wl=>match s with|(p,r,u0,u1,u2,v0,v1,v2,e)=>Off (rg 7 10 (rg 33 35 [])) F23 fl∧fl 7=(.int .u64 (p:Int))∧fl 8=(.int .u64 (r:Int))∧fl 9=(.int .u64 (u0:Int))∧fl 10=(.int .u64 (u1:Int))∧fl 11=(.int .u64 (u2:Int))∧fl 12=(.int .u64 (v0:Int))∧fl 13=(.int .u64 (v1:Int))∧fl 14=(.int .u64 (v2:Int))∧fl 15=(.bool e)∧(Leh (val x) (val y) (4294967296^(x.length-3)*2^(32-sh)) (val x/(4294967296^(x.length-3)*2^(32-sh))) (val y/(4294967296^(x.length-3)*2^(32-sh))) p r u0 u1 u2 v0 v1 v2 e)∧(p<18446744073709551616)∧(u0<18446744073709551616)∧(u1<18446744073709551616)∧(u2<18446744073709551616)∧(v0<18446744073709551616)∧(v1<18446744073709551616)∧(v2<18446744073709551616)∧(Sg (gN .u32) (λb T=>Dx b T∧b<w.heap.size) wl vx x)∧(Sg (gN .u32) (λb T=>Dy b T∧b<w.heap.size) wl vy y)∧(Below w.heap.size w wl)∧(Bk wl b2 171 [(.int .u64 0),(.int .u64 0),(.int .u64 0),(.int .u64 0),(.bool false)])) (λ(s:Nat×Nat×Nat×Nat×Nat×Nat×Nat×Nat×Bool)=>match s with|(p,r,u0,u1,u2,v0,v1,v2,e)=>r) ((val x/(4294967296^(x.length-3)*2^(32-sh))),(val y/(4294967296^(x.length-3)*2^(32-sh))),0,1,0,0,0,1,false) ?_ ?_
 ·replace hx:=hx.tr (Sm.ext (Ext.trans he18 he21))
  replace hy:=hy.tr (Sm.ext he21)
  replace hb4:=hb4.ext (Ext.trans he18 he21)
  exact⟨Off.refl _ _,(hF24 7).trans (rfl),(hF24 8).trans (rfl),(hF24 9).trans (rfl),(hF24 10).trans (rfl),(hF24 11).trans (rfl),(hF24 12).trans (rfl),(hF24 13).trans (rfl),(hF24 14).trans (rfl),(hF24 15).trans (rfl),Leh.start hhp hle,hX64,by decide,by decide,by decide,by decide,by decide,by decide,hx,hy,hE,hb4⟩
 clear hx hy hE hb4
 rintro⟨p,r,u0,u1,u2,v0,v1,v2,e⟩ f25 w26 ⟨hoff27,hs28,hs29,hs30,hs31,hs32,hs33,hs34,hs35,hs36,hL,hp64,hu0,hu1,hu2,hv0,hv1,hv2,hx,hy,hE,hb4⟩
 refine bB (bB ?_)
 have hbnd:=λh=>hL.bounds (y:=r) h
 have hpos:=hL.pos
 have hyx2:=hL.yx
 refine aV (mV hs29 (mV hs35 (rV (sD (k:=.u64) (a:=(r:Int)) (b:=(v2:Int)) rfl rfl) (mV (v:=(bd ((v2:Int)<=(r:Int)))) rfl ?_))))
 rcases bD ((v2:Int)<=(r:Int)) with ⟨hb37,hb37p⟩|⟨hb37,hb37p⟩
 ·have hb0:=hbnd oM
  refine RL.gval rfl rfl (aD hb37) rfl dC (aG (v:=(.int .u64 (p:Int))) hs28) ?_
  refine RL.gval rfl rfl (aD hb37) rfl dC (aG (v:=(.int .u64 (r:Int))) hs29) ?_
  refine RL.gval rfl rfl (aD hb37) rfl dC (eH (k:=.u64) (a:=(p:Int)) (b:=(r:Int)) (c:=((p-r:Nat):Int)) rfl rfl ((cX oM).trans oM)) ?_
  refine RL.gval rfl rfl (aD hb37) rfl dC (aG (v:=(.int .u64 (v1:Int))) hs34) ?_
  refine RL.gval rfl rfl (aD hb37) rfl dC (aG (v:=(.int .u64 (v2:Int))) hs35) ?_
  refine RL.gval rfl rfl (aD hb37) rfl dC (dP (k:=.u64) (a:=(v1:Int)) (b:=(v2:Int)) (c:=((v1+v2:Nat):Int)) rfl rfl ((cX oM).trans oM)) ?_
  refine RL.gval rfl rfl (aD hb37) rfl dC (sD (k:=.u64) (a:=((p-r:Nat):Int)) (b:=((v1+v2:Nat):Int)) rfl rfl) ?_
  refine rV (dV (v:=(bd (((v1+v2:Nat):Int)<=((p-r:Nat):Int)))) (aD hb37) rfl) (RL.nil ?_)
  refine wcD (p:=((v1+v2:Nat):Int)<=((p-r:Nat):Int)) rfl (λhb38 hb38p=>?_) (λhb38 hb38p=>?_)
  ·refine bW ?_
   refine cF ?_
   refine bB ?_
   have hst:=hL.step oM oM
   have hr1:1<=r:=by omega
   have hq1:=hst.2.2.1
   have hq2:=hst.2.2.2
   obtain⟨m1,hm1⟩:∃z,z=p/r*u2:=⟨_,rfl⟩
   obtain⟨m2,hm2⟩:∃z,z=p/r*v2:=⟨_,rfl⟩
   rw[<-hm1] at hq2
   rw[<-hm2] at hq1
   refine aV (mV hs28 (mV hs29 (rV (pJ (k:=.u64) (a:=(p:Int)) (b:=(r:Int)) (c:=((p/r:Nat):Int)) rfl rfl oM (quoN oM)) (aS (v:=(.int .u64 (((p/r:Nat):Int)))) rfl (RL.nil ?_)))))
   refine bB ?_
   refine fI fV λw39 he40=>?_
   replace hE:=hE.nx he40
   refine ra 0 rfl (λ_=>aG (v:=(.int .u64 (r:Int))) hs29) ?_
   refine ra 1 rfl (λ_=>aG (v:=(.int .u64 (p:Int))) hs28) ?_
   refine ra 2 rfl (λ_=>aG (v:=(.int .u64 (r:Int))) hs29) ?_
   refine ra 3 rfl (λ_=>sC (k:=.u64) (a:=(p:Int)) (b:=(r:Int)) (c:=((p%r:Nat):Int)) rfl rfl oM (aIx _ _)) ?_
   refine ra 4 rfl (λ_=>bS (v:=(.int .u64 (r:Int))) rfl) ?_
   refine ra 5 rfl (λ_=>bS (v:=(.int .u64 (((p%r:Nat):Int)))) rfl) ?_
   refine RA.done kR ?_
   refine wsr (mV hs31 (mV hs32 (mV hs31 (mV (v:=(.int .u64 (((p/r:Nat):Int)))) rfl (mV hs32 ?_)))))
   refine rV (jX (k:=.u64) (a:=((p/r:Nat):Int)) (b:=(u2:Int)) (c:=((p/r*u2:Nat):Int)) rfl rfl ((cX (by rw[<-Int.natCast_mul,<-hm1];omega)).trans (by rw[Int.natCast_mul]))) (rV (dP (k:=.u64) (a:=(u1:Int)) (b:=((p/r*u2:Nat):Int)) (c:=((u1+p/r*u2:Nat):Int)) rfl rfl ((cX (by rw[<-hm1];omega)).trans oM)) (aS (v:=(.int .u64 (u1:Int))) rfl (aS (v:=(.int .u64 (u2:Int))) rfl (aS (v:=(.int .u64 (((u1+p/r*u2:Nat):Int)))) rfl (RL.nil ?_)))))
   refine wsr (mV hs34 (mV hs35 (mV hs34 (mV (v:=(.int .u64 (((p/r:Nat):Int)))) rfl (mV hs35 ?_)))))
   refine rV (jX (k:=.u64) (a:=((p/r:Nat):Int)) (b:=(v2:Int)) (c:=((p/r*v2:Nat):Int)) rfl rfl ((cX (by rw[<-Int.natCast_mul,<-hm2];omega)).trans (by rw[Int.natCast_mul]))) (rV (dP (k:=.u64) (a:=(v1:Int)) (b:=((p/r*v2:Nat):Int)) (c:=((v1+p/r*v2:Nat):Int)) rfl rfl ((cX (by rw[<-hm2];omega)).trans oM)) (aS (v:=(.int .u64 (v1:Int))) rfl (aS (v:=(.int .u64 (v2:Int))) rfl (aS (v:=(.int .u64 (((v1+p/r*v2:Nat):Int)))) rfl (RL.nil ?_)))))
   refine aV (mV hs36 (rV (wN rfl) (aS (v:=(.bool (!e))) rfl (RL.nil ?_))))
   replace hx:=hx.tr (Sm.ext he40)
   replace hy:=hy.tr (Sm.ext he40)
   replace hb4:=hb4.ext he40
   refine⟨(r,p%r,u1,u2,u1+p/r*u2,v1,v2,v1+p/r*v2,!e),⟨?_,?_,?_,?_,?_,?_,?_,?_,?_,?_,?_,?_,?_,?_,?_,?_,?_,?_,?_,?_,?_,?_⟩,?_⟩
   ·exact(by repeat (first|exact hoff27|refine Off.st ?_ dC _))
   ·first|rfl|exact aQ oM|exact aD (by simp)
   ·first|rfl|exact aQ oM|exact aD (by simp)
   ·first|rfl|exact aQ oM|exact aD (by simp)
   ·first|rfl|exact aQ oM|exact aD (by simp)
   ·first|rfl|exact aQ oM|exact aD (by simp)
   ·first|rfl|exact aQ oM|exact aD (by simp)
   ·first|rfl|exact aQ oM|exact aD (by simp)
   ·first|rfl|exact aQ oM|exact aD (by simp)
   ·first|rfl|exact aQ oM|exact aD (by simp)
   ·exact hst.1
   ·omega
   ·omega
   ·omega
   ·rw[<-hm1];omega
   ·omega
   ·omega
   ·rw[<-hm2];omega
   ·exact hx
   ·exact hy
   ·exact hE
   ·exact hb4
   exact Nat.mod_lt _ hr1
  refine fB ?_
  refine wsr (mV hs30 (mV hs31 (mV hs33 (mV hs34 (mV hs36 ?_)))))
  refine rV (eR (vl:=[(0,(.int .u64 (u0:Int))),(1,(.int .u64 (u1:Int))),(2,(.int .u64 (v0:Int))),(3,(.int .u64 (v1:Int))),(4,(.bool e))]) (cs:=[(.int .u64 (u0:Int)),(.int .u64 (u1:Int)),(.int .u64 (v0:Int)),(.int .u64 (v1:Int)),(.bool e)]) iX pQ rfl (aYd iX) rfl) ?_
  refine RL.runs rfl rfl (bQ (vv:=(.agg #[(.int .u64 (u0:Int)),(.int .u64 (u1:Int)),(.int .u64 (v0:Int)),(.int .u64 (v1:Int)),(.bool e)])) (cs:=[(.int .u64 (u0:Int)),(.int .u64 (u1:Int)),(.int .u64 (v0:Int)),(.int .u64 (v1:Int)),(.bool e)]) (o:=0) pQ ((hoff27 4 rfl).trans (hF24 4)) rfl rfl rfl (aF rfl (aF rfl (aF rfl (aF rfl (aF rfl bU))))) hb4 bL) ?_
  rintro w41 ⟨hn42,hx43,hz44⟩
  replace hE:=hE.nb hx43 ge_b2
  have nb_hx43:=(Nb.of hb4 (aH rfl (aH rfl (aH rfl (aH rfl (aH rfl cG))))))
  replace hb4:Bk w41 b2 171 [(.int .u64 (u0:Int)),(.int .u64 (u1:Int)),(.int .u64 (v0:Int)),(.int .u64 (v1:Int)),(.bool e)]:=hn42
  refine RL.nil ?_
  refine cE ?_
  refine⟨[(.agg #[(.int .u64 (u0:Int)),(.int .u64 (u1:Int)),(.int .u64 (v0:Int)),(.int .u64 (v1:Int)),(.bool e)])],⟨⟨_,_,[(.int .u64 (u0:Int)),(.int .u64 (u1:Int)),(.int .u64 (v0:Int)),(.int .u64 (v1:Int)),(.bool e)],((hoff27 4 rfl).trans (hF24 4)),⟨_,iX⟩,hb4.cells rfl,.inl ⟨aYc,⟨_,_,pQ⟩,rfl⟩⟩,trivial⟩,?_⟩
  exact⟨⟨u0,u1,v0,v1,e,rfl,hu0,hu1,hv0,hv1,λh=>hL.fin h⟩,hE⟩
 refine RL.gno rfl rfl (aD hb37) rfl dC ?_
 refine RL.gno rfl rfl (aD hb37) rfl dC ?_
 refine RL.gno rfl rfl (aD hb37) rfl dC ?_
 refine RL.gno rfl rfl (aD hb37) rfl dC ?_
 refine RL.gno rfl rfl (aD hb37) rfl dC ?_
 refine RL.gno rfl rfl (aD hb37) rfl dC ?_
 refine RL.gno rfl rfl (aD hb37) rfl dC ?_
 refine rV (eP (v:=(.bool false)) (aD hb37) rfl) (RL.nil ?_)
 refine jW rfl ?_
 refine fB ?_
 refine wsr (mV hs30 (mV hs31 (mV hs33 (mV hs34 (mV hs36 ?_)))))
 refine rV (eR (vl:=[(0,(.int .u64 (u0:Int))),(1,(.int .u64 (u1:Int))),(2,(.int .u64 (v0:Int))),(3,(.int .u64 (v1:Int))),(4,(.bool e))]) (cs:=[(.int .u64 (u0:Int)),(.int .u64 (u1:Int)),(.int .u64 (v0:Int)),(.int .u64 (v1:Int)),(.bool e)]) iX pQ rfl (aYd iX) rfl) ?_
 refine RL.runs rfl rfl (bQ (vv:=(.agg #[(.int .u64 (u0:Int)),(.int .u64 (u1:Int)),(.int .u64 (v0:Int)),(.int .u64 (v1:Int)),(.bool e)])) (cs:=[(.int .u64 (u0:Int)),(.int .u64 (u1:Int)),(.int .u64 (v0:Int)),(.int .u64 (v1:Int)),(.bool e)]) (o:=0) pQ ((hoff27 4 rfl).trans (hF24 4)) rfl rfl rfl (aF rfl (aF rfl (aF rfl (aF rfl (aF rfl bU))))) hb4 bL) ?_
 rintro w45 ⟨hn46,hx47,hz48⟩
 replace hE:=hE.nb hx47 ge_b2
 have nb_hx47:=(Nb.of hb4 (aH rfl (aH rfl (aH rfl (aH rfl (aH rfl cG))))))
 replace hb4:Bk w45 b2 171 [(.int .u64 (u0:Int)),(.int .u64 (u1:Int)),(.int .u64 (v0:Int)),(.int .u64 (v1:Int)),(.bool e)]:=hn46
 refine RL.nil ?_
 refine cE ?_
 refine⟨[(.agg #[(.int .u64 (u0:Int)),(.int .u64 (u1:Int)),(.int .u64 (v0:Int)),(.int .u64 (v1:Int)),(.bool e)])],⟨⟨_,_,[(.int .u64 (u0:Int)),(.int .u64 (u1:Int)),(.int .u64 (v0:Int)),(.int .u64 (v1:Int)),(.bool e)],((hoff27 4 rfl).trans (hF24 4)),⟨_,iX⟩,hb4.cells rfl,.inl ⟨aYc,⟨_,_,pQ⟩,rfl⟩⟩,trivial⟩,?_⟩
 exact⟨⟨u0,u1,v0,v1,e,rfl,hu0,hu1,hv0,hv1,λh=>hL.fin h⟩,hE⟩
theorem nU {w:World} {Dx:Nat->TypeId->Prop} {vx:Value} {x:List Nat} (hx0:Sg (gN .u32) Dx w vx x) (lmx:Lm x) (lnx:x.length<=549755813888) {Dy:Nat->TypeId->Prop} {vy:Value} {y:List Nat} (hy0:Sg (gN .u32) Dy w vy y) (lmy:Lm y) (lny:y.length<=549755813888) {c d:Nat} (hc:c<18446744073709551616) (hd:d<18446744073709551616):
 Calls Tryz.prog 150 #[vx,(.int .u64 (c:Int)),vy,(.int .u64 (d:Int))] w λe w'=>∃v,e= .returned v∧Sg (gN .u32) (λb T=>w.heap.size<=b∧T=131) w' v (aB (val x*c-val y*d))∧Ext w w':=by
 have hE:Below w.heap.size w w:=Below.refl _ _
 have hx:=hx0.old
 clear hx0
 have hy:=hy0.old
 clear hy0
 have hlvx:=bJ lmx
 have hlvy:=bJ lmy
 refine bH (n:=24) (rs:=[.tmp 8]) func150 rfl rfl rfl bL ?_
 refine cV λF0 hF0=>?_
 refine wsr (aS (v:=(.slice none (0) (0))) rfl (RL.nil (wsr (mV (v:=vx) (hF0 0) (mV (v:=(.int .u64 (c:Int))) (hF0 1) ?_)))))
 refine cL kL (kM oM) rfl ?_
 rintro vr3 w1 ⟨hr4,he2⟩
 replace hr4:=hr4.fr hE
 replace hE:=hE.nx he2
 have hlv5:=kK (n:=c) oM
 replace hx:=hx.tr (Sm.ext he2)
 refine cL aAo (aAq hx (by assumption) oS hr4 (aR _) oS) rfl ?_
 rintro vr8 w6 ⟨hr9,he7⟩
 try rw[aW] at hr9
 replace hr9:=hr9.fr hE
 replace hE:=hE.nx he7
 have hlv10:=bJ (x:=x) (by assumption)
 have hlv11:=uB (val x) c
 refine mV (v:=vy) (hF0 2) (mV (v:=(.int .u64 (d:Int))) (hF0 3) ?_)
 refine cL kL (kM oM) rfl ?_
 rintro vr14 w12 ⟨hr15,he13⟩
 replace hr15:=hr15.fr hE
 replace hE:=hE.nx he13
 have hlv16:=kK (n:=d) oM
 have hm21:=Ext.trans he2 (Ext.trans he7 he13)
 replace hy:=hy.tr (Sm.ext hm21)
 refine cL aAo (aAq hy (by assumption) oS hr15 (aR _) oS) rfl ?_
 rintro vr19 w17 ⟨hr20,he18⟩
 try rw[aW] at hr20
 replace hr20:=hr20.fr hE
 replace hE:=hE.nx he18
 have hlv22:=bJ (x:=y) (by assumption)
 have hlv23:=uB (val y) d
 replace hr9:=hr9.tr (Sm.ext (Ext.trans he13 he18))
 refine cL aCs (aLn hr9 (aR _) oS hr20 (aR _) oS) rfl ?_
 rintro vq28 w24 ⟨⟨vr26,hq29,hr27⟩,he25⟩
 have hlv30:=aCr ((val x)*c) ((val y)*d)
 simp only[aW] at hq29 hr27
 subst hq29
 replace hr27:=hr27.fr hE
 replace hE:=hE.nx he25
 refine mV (v:=(.tuple #[vr26,(bd (((val y)*d)<=((val x)*c)))])) rfl (rV (aI (v:=vr26) rfl rfl) (rV (aI (v:=(bd (((val y)*d)<=((val x)*c)))) rfl rfl) (aS (v:=vr26) rfl (aS (v:=(bd (((val y)*d)<=((val x)*c)))) rfl (RL.nil ?_)))))
 refine wsr (mV (v:=vr26) rfl (aS (v:=vr26) rfl (RL.nil ?_)))
 refine cE ?_
 refine⟨[vr26],⟨rfl,trivial⟩,?_⟩
 exact⟨hr27,hE⟩
theorem bGw {w:World} {Dx:Nat->TypeId->Prop} {vx:Value} {x:List Nat} (hx0:Sg (gN .u32) Dx w vx x) (lmx:Lm x) (lnx:x.length<=549755813888) {Dy:Nat->TypeId->Prop} {vy:Value} {y:List Nat} (hy0:Sg (gN .u32) Dy w vy y) (lmy:Lm y) (lny:y.length<=549755813888):
 Calls Tryz.prog 126 #[vx,vy] w λe w'=>∃v,e= .returned v∧Sg (gN .u32) (λb T=>w.heap.size<=b∧T=131) w' v (aB (Nat.gcd (val x) (val y)))∧Ext w w':=by
 have hE:Below w.heap.size w w:=Below.refl _ _
 have hx:=hx0.old
 clear hx0
 have hy:=hy0.old
 clear hy0
 have hlvx:=bJ lmx
 have hlvy:=bJ lmy
 refine bH (n:=86) (rs:=[.tmp 4]) func126 rfl rfl rfl bL ?_
 refine cV λF0 hF0=>?_
 refine wsr (aS (v:=(.slice none (0) (0))) rfl (RL.nil (wsr (mV (v:=vx) (hF0 0) ?_))))
 refine cL eN (fW hx (by assumption) (by first|omega|(simp;done)|(simp;omega))) rfl ?_
 rintro vr2 _ ⟨hr3,rfl⟩
 have hlv4:=bJ (x:=x) (by assumption)
 refine mV (v:=vy) (hF0 1) ?_
 refine cL eN (fW hy (by assumption) (by first|omega|(simp;done)|(simp;omega))) rfl ?_
 rintro vr6 _ ⟨hr7,rfl⟩
 have hlv8:=bJ (x:=y) (by assumption)
 refine aS (v:=vr2) rfl (aS (v:=vr6) rfl (RL.nil ?_))
 refine cV λF9 hF10=>?_
 refine oI (λfl wl=>∃a:Nat,∃b:Nat,∃va:Value,∃vb:Value,Off (rg 0 2 (rg 15 6 [])) F9 fl∧fl 0=va∧fl 1=vb∧(b<=a)∧(Nat.gcd a b=Nat.gcd (val x) (val y))∧((aB a).length<=549755813888)∧(Sg (gN .u32) (λ_ _=>True) wl va (aB a))∧(Sg (gN .u32) (λ_ _=>True) wl vb (aB b))∧(Sg (gN .u32) (λb T=>Dx b T∧b<w.heap.size) wl vx x)∧(Sg (gN .u32) (λb T=>Dy b T∧b<w.heap.size) wl vy y)∧(Below w.heap.size w wl)∧(Sg (gN .u32) (λb T=>Dx b T∧b<w.heap.size) wl vr2 (aB (val x)))∧(Sg (gN .u32) (λb T=>Dy b T∧b<w.heap.size) wl vr6 (aB (val y)))) ?_ ?_
 ·have hoff11:=Off.refl (rg 0 2 (rg 15 6 [])) F9
  refine wsr (mV (v:=vr2) (hF10 0) (mV (v:=vr6) (hF10 1) ?_))
  refine cL mU (gO hr3 (aR _) oS hr7 (aR _) oS) rfl ?_
  rintro vq15 w12 ⟨hq14,he13⟩
  simp only[aW] at hq14
  subst hq14
  replace hE:=hE.nx he13
  refine rV (eQ (k:=.i64) (a:=cmpI (((val x):Nat):Int) (((val y):Nat):Int)) (b:=0) rfl rfl) (RL.nil ?_)
  refine wcD (p:=(cmpI (((val x):Nat):Int) (((val y):Nat):Int))<0) rfl (λhb16 hb16p=>?_) (λhb16 hb16p=>?_)
  ·have hlt:val x<val y:=by have:=cmpI_neg.1 hb16p;omega
   refine aV (mV (v:=vr6) (hF10 1) (mV (v:=vr2) (hF10 0) (aS (v:=vr6) rfl (aS (v:=vr2) rfl (RL.nil ?_)))))
   replace hr7:=hr7.tr (Sm.ext he13)
   replace hr3:=hr3.tr (Sm.ext he13)
   replace hx:=hx.tr (Sm.ext he13)
   replace hy:=hy.tr (Sm.ext he13)
   refine⟨(val y),(val x),vr6,vr2,?_,?_,?_,?_,?_,?_,?_,?_,?_,?_,?_,?_,?_⟩
   ·exact(by repeat (first|exact hoff11|refine Off.st ?_ dC _))
   ·rfl
   ·rfl
   ·omega
   ·first|rfl|exact Nat.gcd_comm _ _
   ·omega
   ·exact hr7.mono (λ_ _ _=>trivial)
   ·exact hr3.mono (λ_ _ _=>trivial)
   ·exact hx
   ·exact hy
   ·exact hE
   ·exact hr3
   exact hr7
  have hge:val y<=val x:=by rcases Nat.lt_or_ge (val x) (val y) with h|h;exact absurd (cmpI_neg.2 oM) hb16p;exact h
  refine bW ?_
  replace hr3:=hr3.tr (Sm.ext he13)
  replace hr7:=hr7.tr (Sm.ext he13)
  replace hx:=hx.tr (Sm.ext he13)
  replace hy:=hy.tr (Sm.ext he13)
  refine⟨(val x),(val y),vr2,vr6,?_,?_,?_,?_,?_,?_,?_,?_,?_,?_,?_,?_,?_⟩
  ·exact(by repeat (first|exact hoff11|refine Off.st ?_ dC _))
  ·refine((hF10 0)).trans ?_
   rfl
  ·refine((hF10 1)).trans ?_
   rfl
  ·omega
  ·first|rfl|exact Nat.gcd_comm _ _
  ·omega
  ·exact hr3.mono (λ_ _ _=>trivial)
  ·exact hr7.mono (λ_ _ _=>trivial)
  ·exact hx
  ·exact hy
  ·exact hE
  ·exact hr3
  exact hr7
 clear hx hy hE hr3 hr7
 rintro f17 w18 ⟨a,b,va,vb,hoff19,hs20,hs21,hba,hg,hla,hA,hB,hx,hy,hE,hr3,hr7⟩
 refine bB ?_
 refine cF ?_
 refine cV λF22 hF23=>?_
 refine fU (σ:=Nat×Nat×Value×Value) (λ(s:Nat×Nat×Value×Value) fl wl=>match s with|(a,b,va,vb)=>Off (rg 0 2 (rg 4 7 (rg 21 63 []))) F22 fl∧fl 0=va∧fl 1=vb∧(b<=a)∧(Nat.gcd a b=Nat.gcd (val x) (val y))∧((aB a).length<=549755813888)∧(Sg (gN .u32) (λ_ _=>True) wl va (aB a))∧(Sg (gN .u32) (λ_ _=>True) wl vb (aB b))∧(Sg (gN .u32) (λb T=>Dx b T∧b<w.heap.size) wl vx x)∧(Sg (gN .u32) (λb T=>Dy b T∧b<w.heap.size) wl vy y)∧(Below w.heap.size w wl)∧(Sg (gN .u32) (λb T=>Dx b T∧b<w.heap.size) wl vr2 (aB (val x)))∧(Sg (gN .u32) (λb T=>Dy b T∧b<w.heap.size) wl vr6 (aB (val y)))) (λ(s:Nat×Nat×Value×Value)=>match s with|(a,b,va,vb)=>b) (a,b,va,vb) ?_ ?_
 ·exact⟨Off.refl _ _,(hF23 0).trans ((hs20).trans rfl),(hF23 1).trans ((hs21).trans rfl),hba,hg,hla,hA,hB,hx,hy,hE,hr3,hr7⟩
 clear hx hy hE hr3 hr7 hA hB
 rintro⟨a,b,va,vb⟩ f24 w25 ⟨hoff26,hs27,hs28,hba,hg,hla,hA,hB,hx,hy,hE,hr3,hr7⟩
 refine bB (wsr (mV hs28 ?_))
 obtain⟨A29,c30,hv31,hc32,hc33⟩:=hB.len
 refine rV (cK bE hv31) (rV (oL (k:=.i64) (a:=(((aB b).length:Nat):Int)) (b:=0) rfl rfl) (RL.nil ?_))
 refine wcD (p:=0<(((aB b).length:Nat):Int)) rfl (λhb34 hb34p=>?_) (λhb34 hb34p=>?_)
 ·have hb0:b≠0:=λh=>by rw[h,iE] at hb34p;exact absurd hb34p dC
  have hll:(aB b).length<=(aB a).length:=cH hba
  refine bW ?_
  refine cF ?_
  refine bB (wsr (mV hs27 ?_))
  obtain⟨A35,c36,hv37,hc38,hc39⟩:=hA.len
  refine rV (cK bE hv37) (rV (aKe (k:=.i64) (a:=(((aB a).length:Nat):Int)) (b:=2) rfl rfl) (RL.nil ?_))
  refine wcD (p:=(((aB a).length:Nat):Int)<=2) rfl (λhb40 hb40p=>?_) (λhb40 hb40p=>?_)
  ·have ha64:=iI.2 (show len a<=2 by unfold len;omega)
   refine wsr (mV hs27 ?_)
   refine cL uH (uI hA (aR _) oM) rfl ?_
   rintro vq43 _ ⟨hq42,rfl⟩
   rw[aW] at hq42
   subst hq42
   refine mV hs28 ?_
   refine cL uH (uI hB (aR _) oM) rfl ?_
   rintro vq46 _ ⟨hq45,rfl⟩
   rw[aW] at hq45
   subst hq45
   refine aS (v:=(.int .u64 (a:Int))) rfl (aS (v:=(.int .u64 (b:Int))) rfl (RL.nil (bB ?_)))
   refine cF ?_
   refine cV λF47 hF48=>?_
   refine fU (σ:=Nat×Nat) (λ(s:Nat×Nat) fl wl=>match s with|(c,d)=>Off (rg 5 2 (rg 31 6 [])) F47 fl∧fl 5=(.int .u64 (c:Int))∧fl 6=(.int .u64 (d:Int))∧(Nat.gcd c d=Nat.gcd (val x) (val y))∧(c<18446744073709551616)∧(d<18446744073709551616)∧(Sg (gN .u32) (λb T=>Dx b T∧b<w.heap.size) wl vx x)∧(Sg (gN .u32) (λb T=>Dy b T∧b<w.heap.size) wl vy y)∧(Below w.heap.size w wl)∧(Sg (gN .u32) (λb T=>Dx b T∧b<w.heap.size) wl vr2 (aB (val x)))∧(Sg (gN .u32) (λb T=>Dy b T∧b<w.heap.size) wl vr6 (aB (val y)))∧(Sg (gN .u32) (λ_ _=>True) wl va (aB a))∧(Sg (gN .u32) (λ_ _=>True) wl vb (aB b))) (λ(s:Nat×Nat)=>match s with|(c,d)=>d) (a,b) ?_ ?_
   ·exact⟨Off.refl _ _,(hF48 5).trans (rfl),(hF48 6).trans (rfl),hg,ha64,by omega,hx,hy,hE,hr3,hr7,hA,hB⟩
   clear hx hy hE hr3 hr7 hA hB
   rintro⟨c,d⟩ f49 w50 ⟨hoff51,hs52,hs53,hcd,hc64,hd64,hx,hy,hE,hr3,hr7,hA,hB⟩
   refine bB (wsr (mV hs53 (rV (mI (k:=.u64) (a:=(d:Int)) (b:=0) rfl rfl) (RL.nil ?_))))
   refine wcD (p:=(d:Int)≠0) rfl (λhb54 hb54p=>?_) (λhb54 hb54p=>?_)
   ·have hd0:d≠0:=by omega
    have hdm:=Nat.mod_lt c (show 0<d by omega)
    refine bW ?_
    refine cF ?_
    refine fI fV λw55 he56=>?_
    replace hE:=hE.nx he56
    refine ra 0 rfl (λ_=>aG (v:=(.int .u64 (d:Int))) hs53) ?_
    refine ra 1 rfl (λ_=>aG (v:=(.int .u64 (c:Int))) hs52) ?_
    refine ra 2 rfl (λ_=>aG (v:=(.int .u64 (d:Int))) hs53) ?_
    refine ra 3 rfl (λ_=>sC (k:=.u64) (a:=(c:Int)) (b:=(d:Int)) (c:=((c%d:Nat):Int)) rfl rfl oM (aIx _ _)) ?_
    refine ra 4 rfl (λ_=>bS (v:=(.int .u64 (d:Int))) rfl) ?_
    refine ra 5 rfl (λ_=>bS (v:=(.int .u64 (((c%d:Nat):Int)))) rfl) ?_
    refine RA.done kR ?_
    replace hx:=hx.tr (Sm.ext he56)
    replace hy:=hy.tr (Sm.ext he56)
    replace hr3:=hr3.tr (Sm.ext he56)
    replace hr7:=hr7.tr (Sm.ext he56)
    replace hA:=hA.tr (Sm.ext he56)
    replace hB:=hB.tr (Sm.ext he56)
    refine⟨(d,c%d),⟨?_,?_,?_,?_,?_,?_,?_,?_,?_,?_,?_,?_,?_⟩,?_⟩
    ·exact(by repeat (first|exact hoff51|refine Off.st ?_ dC _|refine Off.via hoff26 dC ?_|refine Off.eq hF23 ?_|refine Off.via hoff19 dC ?_|refine Off.eq hF10 ?_))
    ·first|rfl|exact aQ oM|exact aD (by simp)
    ·first|rfl|exact aQ oM|exact aD (by simp)
    ·rw[<-hcd,Nat.gcd_comm,<-Nat.gcd_rec,Nat.gcd_comm]
    ·omega
    ·omega
    ·exact hx
    ·exact hy
    ·exact hE
    ·exact hr3
    ·exact hr7
    ·exact hA
    ·exact hB
    (try dsimp only)
    omega
   have hd0:d=0:=by omega
   refine fB ?_
   refine wsr (mV hs52 ?_)
   refine cL kL (kM oM) rfl ?_
   rintro vr59 w57 ⟨hr60,he58⟩
   replace hr60:=hr60.fr hE
   replace hE:=hE.nx he58
   have hlv61:=kK (n:=c) oM
   refine aS (v:=vr59) rfl (RL.nil ?_)
   refine cE ?_
   refine⟨[vr59],⟨rfl,trivial⟩,?_⟩
   rw[hd0,Nat.gcd_zero_right] at hcd
   rw[<-hcd]
   exact⟨hr60,hE⟩
  refine bW ?_
  refine wsr (mV hs27 (mV hs28 ?_))
  refine cL aZr (aJe hA (aR _) oM hB (aR _) oM oM (aLs oM) (cH hba) (by rw[aW,aW];exact hba)) rfl ?_
  rintro _ w62 ⟨⟨u0,u1,v0,v1,e,rfl,hu0,hu1,hv0,hv1,hfn⟩,he63⟩
  simp only[aW] at hfn
  replace hE:=hE.nx he63
  refine rU (cZ (cs:=[(.int .u64 0),(.int .u64 0),(.int .u64 0),(.int .u64 0),(.bool false)]) pQ rfl) ?_
  rintro _ w64 ⟨b65,rfl,hs68,hb67,he66⟩
  have ge_b65:=hE.ge hs68
  replace hE:=hE.nx he66
  refine RL.runs rfl rfl (bQ (vv:=(.agg #[(.int .u64 (u0:Int)),(.int .u64 (u1:Int)),(.int .u64 (v0:Int)),(.int .u64 (v1:Int)),(.bool e)])) (cs:=[(.int .u64 (u0:Int)),(.int .u64 (u1:Int)),(.int .u64 (v0:Int)),(.int .u64 (v1:Int)),(.bool e)]) (o:=0) pQ rfl rfl rfl rfl (aF rfl (aF rfl (aF rfl (aF rfl (aF rfl bU))))) hb67 bL) ?_
  rintro w69 ⟨hn70,hx71,hz72⟩
  replace hE:=hE.nb hx71 ge_b65
  have nb_hx71:=(Nb.of hb67 (aH rfl (aH rfl (aH rfl (aH rfl (aH rfl cG))))))
  replace hb67:Bk w69 b65 171 [(.int .u64 (u0:Int)),(.int .u64 (u1:Int)),(.int .u64 (v0:Int)),(.int .u64 (v1:Int)),(.bool e)]:=hn70
  refine RL.nil (bB (wsr (rV (aM iX rfl xQ rfl) ?_)))
  have hc73:=hb67.cell (j:=2) (u:=(.int .u64 (v0:Int))) rfl
  refine rV (aY dB xR rfl hc73) (rV (iW (k:=.u64) (a:=(v0:Int)) (b:=0) rfl rfl) (RL.nil ?_))
  refine wcD (p:=(v0:Int)=0) rfl (λhb74 hb74p=>?_) (λhb74 hb74p=>?_)
  ·refine wsr ?_
   refine mV hs27 (mV hs28 ?_)
   replace hA:=(hA.tr (Sm.ext (Ext.trans he63 he66))).apn hx71 nb_hx71
   replace hB:=(hB.tr (Sm.ext (Ext.trans he63 he66))).apn hx71 nb_hx71
   refine cL uG (mW hA (aR _) oS hB (aR _) oS) rfl ?_
   rintro vv81 w75 ⟨⟨vq77,vr79,hv82,hq78,hr80⟩,he76⟩
   simp only[aW] at hv82 hq78 hr80
   subst hv82
   have hlv83:=uD a b
   have hlv84:=pP a b
   have hlv85:=mT a b
   replace hq78:=hq78.fr hE
   replace hr80:=hr80.fr hE
   replace hE:=hE.nx he76
   refine mV (v:=(.tuple #[vq77,vr79,(bd (b≠0))])) rfl (rV (aI (v:=vq77) rfl rfl) (rV (aI (v:=vr79) rfl rfl) (rV (aI (v:=(bd (b≠0))) rfl rfl) (aS (v:=vq77) rfl (aS (v:=vr79) rfl ?_)))))
   refine aS (v:=(bd (b≠0))) rfl (RL.nil (wsr (mV hs28 (mV (v:=vr79) rfl (aS (v:=vb) rfl ?_)))))
   refine aS (v:=vr79) rfl (RL.nil ?_)
   refine fB ?_
   replace hB:=hB.tr (Sm.ext he76)
   replace hx:=((hx.tr (Sm.ext (Ext.trans he63 he66))).tr (Sm.exc hx71 (λ_ _ _ _ hd=>absurd hd.2 (Nat.not_lt_of_le ge_b65)))).tr (Sm.ext he76)
   replace hy:=((hy.tr (Sm.ext (Ext.trans he63 he66))).tr (Sm.exc hx71 (λ_ _ _ _ hd=>absurd hd.2 (Nat.not_lt_of_le ge_b65)))).tr (Sm.ext he76)
   replace hr3:=((hr3.tr (Sm.ext (Ext.trans he63 he66))).tr (Sm.exc hx71 (λ_ _ _ _ hd=>absurd hd.2 (Nat.not_lt_of_le ge_b65)))).tr (Sm.ext he76)
   replace hr7:=((hr7.tr (Sm.ext (Ext.trans he63 he66))).tr (Sm.exc hx71 (λ_ _ _ _ hd=>absurd hd.2 (Nat.not_lt_of_le ge_b65)))).tr (Sm.ext he76)
   refine⟨(b,(kJ a b),vb,vr79),⟨?_,?_,?_,?_,?_,?_,?_,?_,?_,?_,?_,?_,?_⟩,?_⟩
   ·exact(by repeat (first|exact hoff26|refine Off.st ?_ dC _|refine Off.via hoff19 dC ?_|refine Off.eq hF10 ?_))
   ·first|rfl|exact aQ oM|exact aD (by simp)
   ·first|rfl|exact aQ oM|exact aD (by simp)
   ·rw[show kJ a b=a%b from if_neg hb0];exact Nat.le_of_lt (Nat.mod_lt _ oM)
   ·rw[<-hg,show kJ a b=a%b from if_neg hb0,Nat.gcd_comm,<-Nat.gcd_rec,Nat.gcd_comm]
   ·omega
   ·exact hB.mono (λ_ _ _=>trivial)
   ·exact hr80.mono (λ_ _ _=>trivial)
   ·exact hx
   ·exact hy
   ·exact hE
   ·exact hr3
   ·exact hr7
   (try dsimp only)
   first|(rw[show kJ a b=a%b from if_neg hb0];exact Nat.mod_lt _ oM)|exact Nat.lt_of_lt_of_le hf.2.2.2.1 hf.2.2.2.2
  have hv0n:v0≠0:=by omega
  refine bW ?_
  refine wsr (rV (aM iX rfl ty4 rfl) ?_)
  have hc86:=hb67.cell (j:=4) (u:=(.bool e)) rfl
  refine rV (aY uT4 ag4 rfl hc86) (RL.nil ?_)
  refine kO (b:=e) rfl (λhb87=>?_) (λhb87=>?_)
  ·have hb87p:=hb87
   have hf:=(hfn hv0n).1 hb87
   rw[Nat.mul_comm u0,Nat.mul_comm v0,Nat.mul_comm v1,Nat.mul_comm u1] at hf
   refine fI fV λw88 he89=>?_
   replace hE:=hE.nx he89
   refine ra 0 rfl (λ_=>aG (v:=va) hs27) ?_
   refine ra 1 rfl (λ_=>aM iX rfl xQ rfl) ?_
   replace hb67:=hb67.ext he89
   have hc90:=hb67.cell (j:=0) (u:=(.int .u64 (u0:Int))) rfl
   refine RA.rd 2 rfl kR rfl rfl rfl dC (Ext.refl _) (λu hu=>aY dB xR rfl (bT hu hc90)) ?_
   refine ra 3 rfl (λ_=>aG (v:=vb) hs28) ?_
   refine ra 4 rfl (λ_=>aM iX rfl xQ rfl) ?_
   have hc91:=hb67.cell (j:=2) (u:=(.int .u64 (v0:Int))) rfl
   refine RA.rd 5 rfl kR rfl rfl rfl dC (Ext.refl _) (λu hu=>aY dB xR rfl (bT hu hc91)) ?_
   refine ra 7 rfl (λ_=>aG (v:=vb) hs28) ?_
   refine ra 8 rfl (λ_=>aM iX rfl xQ rfl) ?_
   have hc92:=hb67.cell (j:=3) (u:=(.int .u64 (v1:Int))) rfl
   refine RA.rd 9 rfl kR rfl rfl rfl dC (Ext.refl _) (λu hu=>aY dB xR rfl (bT hu hc92)) ?_
   refine ra 10 rfl (λ_=>aG (v:=va) hs27) ?_
   refine ra 11 rfl (λ_=>aM iX rfl xQ rfl) ?_
   have hc93:=hb67.cell (j:=1) (u:=(.int .u64 (u1:Int))) rfl
   refine RA.rd 12 rfl kR rfl rfl rfl dC (Ext.refl _) (λu hu=>aY dB xR rfl (bT hu hc93)) ?_
   refine RA.all [6] kR rfl ?_
   replace hA:=((hA.tr (Sm.ext (Ext.trans he63 he66))).apn hx71 nb_hx71).tr (Sm.ext he89)
   replace hB:=((hB.tr (Sm.ext (Ext.trans he63 he66))).apn hx71 nb_hx71).tr (Sm.ext he89)
   refine RS.call rfl rfl rfl dC (bO (vl:=[va,(.int .u64 (u0:Int)),vb,(.int .u64 (v0:Int))]) xT rfl) (nU hA (aR _) oS hB (aR _) oS oM oM) ?_ RS.nil
   rintro vr96 w94 ⟨hr97,he95⟩
   refine rm he95 ?_
   try rw[aW] at hr97
   try rw[aW] at hr97
   replace hr97:=hr97.fr hE
   replace hE:=hE.nx he95
   refine RA.all [13] kR rfl ?_
   replace hB:=hB.tr (Sm.ext he95)
   replace hA:=hA.tr (Sm.ext he95)
   refine RS.call rfl rfl rfl dC (bO (vl:=[vb,(.int .u64 (v1:Int)),va,(.int .u64 (u1:Int))]) xT rfl) (nU hB (aR _) oS hA (aR _) oS oM oM) ?_ RS.nil
   rintro vr100 w98 ⟨hr101,he99⟩
   refine rm he99 ?_
   try rw[aW] at hr101
   try rw[aW] at hr101
   replace hr101:=hr101.fr hE
   replace hE:=hE.nx he99
   refine ra 14 rfl (λ_=>bS (v:=vr96) rfl) ?_
   refine ra 15 rfl (λ_=>bS (v:=vr100) rfl) ?_
   refine RA.done kR ?_
   replace hr97:=hr97.tr (Sm.ext he99)
   have hm102:=Ext.trans he89 (Ext.trans he95 he99)
   replace hx:=((hx.tr (Sm.ext (Ext.trans he63 he66))).tr (Sm.exc hx71 (λ_ _ _ _ hd=>absurd hd.2 (Nat.not_lt_of_le ge_b65)))).tr (Sm.ext hm102)
   replace hy:=((hy.tr (Sm.ext (Ext.trans he63 he66))).tr (Sm.exc hx71 (λ_ _ _ _ hd=>absurd hd.2 (Nat.not_lt_of_le ge_b65)))).tr (Sm.ext hm102)
   replace hr3:=((hr3.tr (Sm.ext (Ext.trans he63 he66))).tr (Sm.exc hx71 (λ_ _ _ _ hd=>absurd hd.2 (Nat.not_lt_of_le ge_b65)))).tr (Sm.ext hm102)
   replace hr7:=((hr7.tr (Sm.ext (Ext.trans he63 he66))).tr (Sm.exc hx71 (λ_ _ _ _ hd=>absurd hd.2 (Nat.not_lt_of_le ge_b65)))).tr (Sm.ext hm102)
   refine⟨((a*u0-b*v0),(b*v1-a*u1),vr96,vr100),⟨?_,?_,?_,?_,?_,?_,?_,?_,?_,?_,?_,?_,?_⟩,?_⟩
   ·exact(by repeat (first|exact hoff26|refine Off.st ?_ dC _|refine Off.via hoff19 dC ?_|refine Off.eq hF10 ?_))
   ·first|rfl|exact aQ oM|exact aD (by simp)
   ·first|rfl|exact aQ oM|exact aD (by simp)
   ·exact Nat.le_of_lt hf.2.2.2.1
   ·exact hf.2.2.1.trans hg
   ·exact Nat.le_trans (cH (Nat.le_trans hf.2.2.2.2 hba)) hla
   ·exact hr97.mono (λ_ _ _=>trivial)
   ·exact hr101.mono (λ_ _ _=>trivial)
   ·exact hx
   ·exact hy
   ·exact hE
   ·exact hr3
   ·exact hr7
   (try dsimp only)
   first|(rw[show kJ a b=a%b from if_neg hb0];exact Nat.mod_lt _ oM)|exact Nat.lt_of_lt_of_le hf.2.2.2.1 hf.2.2.2.2
  have hb87p:=hb87
  have hf:=(hfn hv0n).2 hb87
  rw[Nat.mul_comm u0,Nat.mul_comm v0,Nat.mul_comm v1,Nat.mul_comm u1] at hf
  refine fI fV λw103 he104=>?_
  replace hE:=hE.nx he104
  refine ra 0 rfl (λ_=>aG (v:=vb) hs28) ?_
  refine ra 1 rfl (λ_=>aM iX rfl xQ rfl) ?_
  replace hb67:=hb67.ext he104
  have hc105:=hb67.cell (j:=2) (u:=(.int .u64 (v0:Int))) rfl
  refine RA.rd 2 rfl kR rfl rfl rfl dC (Ext.refl _) (λu hu=>aY dB xR rfl (bT hu hc105)) ?_
  refine ra 3 rfl (λ_=>aG (v:=va) hs27) ?_
  refine ra 4 rfl (λ_=>aM iX rfl xQ rfl) ?_
  have hc106:=hb67.cell (j:=0) (u:=(.int .u64 (u0:Int))) rfl
  refine RA.rd 5 rfl kR rfl rfl rfl dC (Ext.refl _) (λu hu=>aY dB xR rfl (bT hu hc106)) ?_
  refine ra 7 rfl (λ_=>aG (v:=va) hs27) ?_
  refine ra 8 rfl (λ_=>aM iX rfl xQ rfl) ?_
  have hc107:=hb67.cell (j:=1) (u:=(.int .u64 (u1:Int))) rfl
  refine RA.rd 9 rfl kR rfl rfl rfl dC (Ext.refl _) (λu hu=>aY dB xR rfl (bT hu hc107)) ?_
  refine ra 10 rfl (λ_=>aG (v:=vb) hs28) ?_
  refine ra 11 rfl (λ_=>aM iX rfl xQ rfl) ?_
  have hc108:=hb67.cell (j:=3) (u:=(.int .u64 (v1:Int))) rfl
  refine RA.rd 12 rfl kR rfl rfl rfl dC (Ext.refl _) (λu hu=>aY dB xR rfl (bT hu hc108)) ?_
  refine RA.all [6] kR rfl ?_
  replace hB:=((hB.tr (Sm.ext (Ext.trans he63 he66))).apn hx71 nb_hx71).tr (Sm.ext he104)
  replace hA:=((hA.tr (Sm.ext (Ext.trans he63 he66))).apn hx71 nb_hx71).tr (Sm.ext he104)
  refine RS.call rfl rfl rfl dC (bO (vl:=[vb,(.int .u64 (v0:Int)),va,(.int .u64 (u0:Int))]) xT rfl) (nU hB (aR _) oS hA (aR _) oS oM oM) ?_ RS.nil
  rintro vr111 w109 ⟨hr112,he110⟩
  refine rm he110 ?_
  try rw[aW] at hr112
  try rw[aW] at hr112
  replace hr112:=hr112.fr hE
  replace hE:=hE.nx he110
  refine RA.all [13] kR rfl ?_
  replace hA:=hA.tr (Sm.ext he110)
  replace hB:=hB.tr (Sm.ext he110)
  refine RS.call rfl rfl rfl dC (bO (vl:=[va,(.int .u64 (u1:Int)),vb,(.int .u64 (v1:Int))]) xT rfl) (nU hA (aR _) oS hB (aR _) oS oM oM) ?_ RS.nil
  rintro vr115 w113 ⟨hr116,he114⟩
  refine rm he114 ?_
  try rw[aW] at hr116
  try rw[aW] at hr116
  replace hr116:=hr116.fr hE
  replace hE:=hE.nx he114
  refine ra 14 rfl (λ_=>bS (v:=vr111) rfl) ?_
  refine ra 15 rfl (λ_=>bS (v:=vr115) rfl) ?_
  refine RA.done kR ?_
  replace hr112:=hr112.tr (Sm.ext he114)
  have hm117:=Ext.trans he104 (Ext.trans he110 he114)
  replace hx:=((hx.tr (Sm.ext (Ext.trans he63 he66))).tr (Sm.exc hx71 (λ_ _ _ _ hd=>absurd hd.2 (Nat.not_lt_of_le ge_b65)))).tr (Sm.ext hm117)
  replace hy:=((hy.tr (Sm.ext (Ext.trans he63 he66))).tr (Sm.exc hx71 (λ_ _ _ _ hd=>absurd hd.2 (Nat.not_lt_of_le ge_b65)))).tr (Sm.ext hm117)
  replace hr3:=((hr3.tr (Sm.ext (Ext.trans he63 he66))).tr (Sm.exc hx71 (λ_ _ _ _ hd=>absurd hd.2 (Nat.not_lt_of_le ge_b65)))).tr (Sm.ext hm117)
  replace hr7:=((hr7.tr (Sm.ext (Ext.trans he63 he66))).tr (Sm.exc hx71 (λ_ _ _ _ hd=>absurd hd.2 (Nat.not_lt_of_le ge_b65)))).tr (Sm.ext hm117)
  refine⟨((b*v0-a*u0),(a*u1-b*v1),vr111,vr115),⟨?_,?_,?_,?_,?_,?_,?_,?_,?_,?_,?_,?_,?_⟩,?_⟩
  ·exact(by repeat (first|exact hoff26|refine Off.st ?_ dC _|refine Off.via hoff19 dC ?_|refine Off.eq hF10 ?_))
  ·first|rfl|exact aQ oM|exact aD (by simp)
  ·first|rfl|exact aQ oM|exact aD (by simp)
  ·exact Nat.le_of_lt hf.2.2.2.1
  ·exact hf.2.2.1.trans hg
  ·exact Nat.le_trans (cH (Nat.le_trans hf.2.2.2.2 hba)) hla
  ·exact hr112.mono (λ_ _ _=>trivial)
  ·exact hr116.mono (λ_ _ _=>trivial)
  ·exact hx
  ·exact hy
  ·exact hE
  ·exact hr3
  ·exact hr7
  (try dsimp only)
  first|(rw[show kJ a b=a%b from if_neg hb0];exact Nat.mod_lt _ oM)|exact Nat.lt_of_lt_of_le hf.2.2.2.1 hf.2.2.2.2
 have hb0:b=0:=eB.1 (by unfold len;omega)
 refine fB ?_
 refine wsr (mV hs27 ?_)
 refine cL xS (n_trim hA (aR _) oS) rfl ?_
 rintro vr120 w118 ⟨hr121,he119⟩
 try rw[aW] at hr121
 replace hr121:=hr121.fr hE
 replace hE:=hE.nx he119
 refine aS (v:=vr120) rfl (RL.nil ?_)
 refine cE ?_
 refine⟨[vr120],⟨rfl,trivial⟩,?_⟩
 rw[hb0,Nat.gcd_zero_right] at hg
 rw[<-hg]
 exact⟨hr121,hE⟩
theorem aLv {a b:Int} (h:Int.sign a<Int.sign b):a<b:=by
 rcases Int.lt_trichotomy a 0 with h1|h1|h1<;>rcases Int.lt_trichotomy b 0 with h2|h2|h2<;>simp[h1,h2,Int.sign_eq_neg_one_of_neg,Int.sign_eq_one_of_pos] at h<;>omega
theorem aUq {a b:Int} (h1:¬Int.sign a<Int.sign b) (h2:¬Int.sign b<Int.sign a):(Int.sign a<0->cmpI ((b.natAbs:Nat):Int) ((a.natAbs:Nat):Int)=cmpI a b)∧(¬Int.sign a<0->cmpI ((a.natAbs:Nat):Int) ((b.natAbs:Nat):Int)=cmpI a b):=by
 have e:Int.sign a=Int.sign b:=by omega
 rcases Int.lt_trichotomy a 0 with g1|g1|g1<;>rcases Int.lt_trichotomy b 0 with g2|g2|g2<;>simp[g1,g2,Int.sign_eq_neg_one_of_neg,Int.sign_eq_one_of_pos] at e ⊢<;>(unfold cmpI;(repeat split)<;>omega)
theorem jN {w:World} {sx:Bool} {D:Nat->TypeId->Prop} {vx:Value} {n:Nat} (hx:Sg (gN .u32) D w vx (aB n)) {zx:Int} (ex:sg sx n=zx):
 Calls Tryz.prog 128 #[(.bool sx),vx] w λe w'=>∃v,e= .returned v∧v= .agg #[.bool (decide (zx<0)),vx]∧Ext w w':=by
 have hE:Below w.heap.size w w:=Below.refl _ _
 refine bH (n:=13) (rs:=[.cell 4 49]) func128 rfl rfl rfl bL ?_
 refine cV λF0 hF0=>?_
 refine wsr ?_
 refine rU (cZ (cs:=[(.bool false),(.slice none 0 0)]) cO rfl) ?_
 rintro _ w1 ⟨b2,rfl,hs5,hb4,he3⟩
 have ge_b2:=hE.ge hs5
 replace hE:=hE.nx he3
 refine RL.nil (wsr (mV (v:=(.bool sx)) (hF0 0) (mV (v:=(.bool sx)) rfl ?_)))
 rcases Bool.eq_false_or_eq_true (sx) with hb6|hb6
 ·have hb6p:=hb6
  have hsx:sx=true:=hb6
  refine RL.gval rfl rfl (aD hb6) rfl dC (aG (v:=vx) (hF0 1)) ?_
  obtain⟨A7,c8,hv9,hc10,hc11⟩:=hx.len
  refine RL.gval rfl rfl (aD hb6) rfl dC (cK bE hv9) ?_
  refine RL.gval rfl rfl (aD hb6) rfl dC (oL (k:=.i64) (a:=(((aB n).length:Nat):Int)) (b:=0) rfl rfl) ?_
  refine rV (dV (v:=(bd (0<(((aB n).length:Nat):Int)))) (aD hb6) rfl) (mV (v:=vx) (hF0 1) (rV (eR (vl:=[(0,(bd (0<(((aB n).length:Nat):Int)))),(1,vx)]) (cs:=[(bd (0<(((aB n).length:Nat):Int))),vx]) cQ cO rfl (aAn cQ) (by obtain⟨_,_,e0_,-,-⟩:=hx.len;simp only[e0_];rfl)) ?_))
  refine RL.runs rfl rfl (bQ (vv:=(.agg #[(bd (0<(((aB n).length:Nat):Int))),vx])) (cs:=[(bd (0<(((aB n).length:Nat):Int))),vx]) (o:=0) cO rfl rfl rfl rfl (aF rfl (aF hx.one bU)) hb4 bL) ?_
  rintro w12 ⟨hn13,hx14,hz15⟩
  replace hE:=hE.nb hx14 ge_b2
  have nb_hx14:=(Nb.of hb4 (aH rfl (aH rfl cG)))
  replace hb4:Bk w12 b2 49 [(bd (0<(((aB n).length:Nat):Int))),vx]:=hn13
  refine RL.nil ?_
  refine cE ?_
  refine⟨[(.agg #[(bd (0<(((aB n).length:Nat):Int))),vx])],⟨⟨_,_,[(bd (0<(((aB n).length:Nat):Int))),vx],rfl,⟨_,cQ⟩,hb4.cells rfl,.inl ⟨iB,⟨_,_,cO⟩,rfl⟩⟩,trivial⟩,?_⟩
  exact⟨bGn (bNe ex hsx),hE⟩
 have hb6p:=hb6
 have hsx:sx=false:=hb6
 refine RL.gno rfl rfl (aD hb6) rfl dC ?_
 refine RL.gno rfl rfl (aD hb6) rfl dC ?_
 refine RL.gno rfl rfl (aD hb6) rfl dC ?_
 refine rV (eP (v:=(.bool false)) (aD hb6) rfl) (mV (v:=vx) (hF0 1) (rV (eR (vl:=[(0,(.bool false)),(1,vx)]) (cs:=[(.bool false),vx]) cQ cO rfl (aAn cQ) (by obtain⟨_,_,e0_,-,-⟩:=hx.len;simp only[e0_];rfl)) ?_))
 refine RL.runs rfl rfl (bQ (vv:=(.agg #[(.bool false),vx])) (cs:=[(.bool false),vx]) (o:=0) cO rfl rfl rfl rfl (aF rfl (aF hx.one bU)) hb4 bL) ?_
 rintro w16 ⟨hn17,hx18,hz19⟩
 replace hE:=hE.nb hx18 ge_b2
 have nb_hx18:=(Nb.of hb4 (aH rfl (aH rfl cG)))
 replace hb4:Bk w16 b2 49 [(.bool false),vx]:=hn17
 refine RL.nil ?_
 refine cE ?_
 refine⟨[(.agg #[(.bool false),vx])],⟨⟨_,_,[(.bool false),vx],rfl,⟨_,cQ⟩,hb4.cells rfl,.inl ⟨iB,⟨_,_,cO⟩,rfl⟩⟩,trivial⟩,?_⟩
 exact⟨bGn (bNf ex hsx),hE⟩
theorem bAd {w:World} {sx:Bool} {Dx:Nat->TypeId->Prop} {vx:Value} {x:List Nat} (hx:Sg (gN .u32) Dx w vx x) (lmx:Lm x) (lnx:x.length<=274877906944) {zx:Int} (ex:sg sx (val x)=zx):
 Calls Tryz.prog 124 #[(.agg #[(.bool sx),vx])] w λe w'=>∃v,e= .returned v∧(∃vr,v= .agg #[.bool (decide (zx<0)),vr]∧Sg (gN .u32) (λb T=>w.heap.size<=b∧T=131) w' vr (aB zx.natAbs)∧(aB zx.natAbs).length<=x.length)∧Ext w w':=by
 have hE:Below w.heap.size w w:=Below.refl _ _
 have hlzx:=kS lmx ex
 refine bH (n:=9) (rs:=[.cell 2 49]) func124 rfl rfl rfl bL ?_
 refine cV λF0 hF0=>?_
 refine wsr ?_
 refine rU (fZ (vv:=(.agg #[(.bool sx),vx])) (cs:=[(.bool sx),vx]) (hF0 0) rfl) ?_
 rintro _ w1 ⟨b2,rfl,hs5,hb4,he3⟩
 have ge_b2:=hE.ge hs5
 replace hE:=hE.nx he3
 refine rU (cZ (cs:=[(.bool false),(.slice none 0 0)]) cO rfl) ?_
 rintro _ w6 ⟨b7,rfl,hs10,hb9,he8⟩
 have lt_b2_b7:=Nat.lt_of_lt_of_eq hb4.lt hs10.symm
 have ge_b7:=hE.ge hs10
 replace hE:=hE.nx he8
 refine RL.nil (bB ?_)
 refine fI fV λw11 he12=>?_
 replace hE:=hE.nx he12
 refine ra 0 rfl (λ_=>aM cQ rfl ty4 rfl) ?_
 replace hb4:=hb4.ext (Ext.trans he8 he12)
 have hc13:=hb4.cell (j:=0) (u:=(.bool sx)) rfl
 refine RA.rd 1 rfl kR rfl rfl rfl dC (Ext.refl _) (λu hu=>aY uT4 ag4 rfl (bT hu hc13)) ?_
 refine ra 2 rfl (λ_=>aM cQ rfl iM rfl) ?_
 have hc14:=hb4.cell (j:=1) (u:=vx) rfl
 refine RA.rd 3 rfl kR rfl rfl rfl dC (Ext.refl _) (λu hu=>aY bE jA rfl (bT hu hc14)) ?_
 refine RA.all [4] kR rfl ?_
 have hm19:=Ext.trans he3 (Ext.trans he8 he12)
 replace hx:=hx.tr (Sm.ext hm19)
 refine RS.call rfl rfl rfl dC (bO (vl:=[vx]) xS rfl) (n_trim hx (by assumption) oS) ?_ RS.nil
 rintro vr17 w15 ⟨hr18,he16⟩
 refine rm he16 ?_
 replace hr18:=hr18.fr hE
 replace hE:=hE.nx he16
 have hlt20:(aB (val x)).length<=x.length:=eG (by assumption)
 refine RA.all [5] kR rfl ?_
 refine RS.call rfl rfl rfl dC (bO (vl:=[(.bool sx),vr17]) pA rfl) (jN (n:=(val x)) hr18 (show sg sx (val x)=zx from ex)) ?_ RS.nil
 rintro _ w21 ⟨rfl,he22⟩
 refine rm he22 ?_
 replace hE:=hE.nx he22
 have hq23:=oZ (show sg sx (val x)=zx from ex)
 have hlv24:(aB zx.natAbs).length=(aB (val x)).length:=by rw[hq23]
 replace hr18:=hr18.tr (Sm.ext he22)
 rw[hq23] at hr18
 refine RA.all [6] kR rfl ?_
 have hm29:=Ext.trans he12 (Ext.trans he16 he22)
 replace hb9:=hb9.ext hm29
 refine RS.runs rfl rfl rfl (bQ (vv:=(.agg #[(bd (zx<0)),vr17])) (cs:=[(bd (zx<0)),vr17]) (o:=0) cO rfl rfl rfl rfl (aF rfl (aF hr18.one bU)) hb9 bL) ?_ RS.nil
 rintro w25 ⟨hn26,hx27,hz28⟩
 refine⟨.inr (.inl kR),?_⟩
 replace hE:=hE.nb hx27 ge_b7
 have nb_hx27:=(Nb.of hb9 (aH rfl (aH rfl cG)))
 replace hb9:Bk w25 b7 49 [(bd (zx<0)),vr17]:=hn26
 refine RA.done kR ?_
 refine cE ?_
 refine⟨[(.agg #[(bd (zx<0)),vr17])],⟨⟨_,_,[(bd (zx<0)),vr17],rfl,⟨_,cQ⟩,hb9.cells rfl,.inl ⟨iB,⟨_,_,cO⟩,rfl⟩⟩,trivial⟩,?_⟩
 replace hr18:=hr18.apn hx27 nb_hx27
 exact⟨⟨_,rfl,hr18,oM⟩,hE⟩
theorem aAt {w:World} {sx:Bool} {Dx:Nat->TypeId->Prop} {vx:Value} {x:List Nat} (hx:Sg (gN .u32) Dx w vx x) (lmx:Lm x) (lnx:x.length<=274877906944) {zx:Int} (ex:sg sx (val x)=zx) {sy:Bool} {Dy:Nat->TypeId->Prop} {vy:Value} {y:List Nat} (hy:Sg (gN .u32) Dy w vy y) (lmy:Lm y) (lny:y.length<=274877906944) {zy:Int} (ey:sg sy (val y)=zy):
 Calls Tryz.prog 121 #[(.agg #[(.bool sx),vx]),(.agg #[(.bool sy),vy])] w λe w'=>∃v,e= .returned v∧(∃vr,v= .agg #[.bool (decide ((zx+zy)<0)),vr]∧Sg (gN .u32) (λb T=>w.heap.size<=b∧T=131) w' vr (aB (zx+zy).natAbs)∧(aB (zx+zy).natAbs).length<=max x.length y.length+1)∧Ext w w':=by
 have hE:Below w.heap.size w w:=Below.refl _ _
 have hlzx:=kS lmx ex
 have hlzy:=kS lmy ey
 refine bH (n:=47) (rs:=[.cell 4 49]) func121 rfl rfl rfl bL ?_
 refine cV λF0 hF0=>?_
 refine wsr ?_
 refine rU (fZ (vv:=(.agg #[(.bool sx),vx])) (cs:=[(.bool sx),vx]) (hF0 0) rfl) ?_
 rintro _ w1 ⟨b2,rfl,hs5,hb4,he3⟩
 have ge_b2:=hE.ge hs5
 replace hE:=hE.nx he3
 refine rU (fZ (vv:=(.agg #[(.bool sy),vy])) (cs:=[(.bool sy),vy]) (hF0 1) rfl) ?_
 rintro _ w6 ⟨b7,rfl,hs10,hb9,he8⟩
 have lt_b2_b7:=Nat.lt_of_lt_of_eq hb4.lt hs10.symm
 have ge_b7:=hE.ge hs10
 replace hE:=hE.nx he8
 refine rU (cZ (cs:=[(.bool false),(.slice none 0 0)]) cO rfl) ?_
 rintro _ w11 ⟨b12,rfl,hs15,hb14,he13⟩
 have lt_b7_b12:=Nat.lt_of_lt_of_eq hb9.lt hs15.symm
 have ge_b12:=hE.ge hs15
 replace hE:=hE.nx he13
 refine RL.nil (bB (wsr (rV (aM cQ rfl ty4 rfl) ?_)))
 replace hb4:=hb4.ext (Ext.trans he8 he13)
 have hc16:=hb4.cell (j:=0) (u:=(.bool sx)) rfl
 refine rV (aY uT4 ag4 rfl hc16) (rV (aM cQ rfl ty4 rfl) ?_)
 replace hb9:=hb9.ext he13
 have hc17:=hb9.cell (j:=0) (u:=(.bool sy)) rfl
 refine rV (aY uT4 ag4 rfl hc17) (rV (aKf uT4 rfl rfl) (RL.nil ?_))
 refine kO (b:=sx==sy) rfl (λhb18=>?_) (λhb18=>?_)
 ·have hb18p:=hb18
  have hs:sx=sy:=by simpa using hb18
  refine bB ?_
  refine fI fV λw19 he20=>?_
  replace hE:=hE.nx he20
  refine ra 0 rfl (λ_=>aM cQ rfl ty4 rfl) ?_
  replace hb4:=hb4.ext he20
  have hc21:=hb4.cell (j:=0) (u:=(.bool sx)) rfl
  refine RA.rd 1 rfl kR rfl rfl rfl dC (Ext.refl _) (λu hu=>aY uT4 ag4 rfl (bT hu hc21)) ?_
  refine ra 2 rfl (λ_=>aM cQ rfl iM rfl) ?_
  have hc22:=hb4.cell (j:=1) (u:=vx) rfl
  refine RA.rd 3 rfl kR rfl rfl rfl dC (Ext.refl _) (λu hu=>aY bE jA rfl (bT hu hc22)) ?_
  refine ra 4 rfl (λ_=>aM cQ rfl iM rfl) ?_
  replace hb9:=hb9.ext he20
  have hc23:=hb9.cell (j:=1) (u:=vy) rfl
  refine RA.rd 5 rfl kR rfl rfl rfl dC (Ext.refl _) (λu hu=>aY bE jA rfl (bT hu hc23)) ?_
  refine RA.all [6] kR rfl ?_
  have hm28:=Ext.trans he3 (Ext.trans he8 (Ext.trans he13 he20))
  replace hx:=hx.tr (Sm.ext hm28)
  replace hy:=hy.tr (Sm.ext hm28)
  refine RS.call rfl rfl rfl dC (bO (vl:=[vx,vy]) aZq rfl) (bGs hx (by assumption) oS hy (by assumption) oS) ?_ RS.nil
  rintro vr26 w24 ⟨hr27,he25⟩
  refine rm he25 ?_
  replace hr27:=hr27.fr hE
  replace hE:=hE.nx he25
  have hlv29:=bJ (x:=x) (by assumption)
  have hlv30:=bJ (x:=y) (by assumption)
  have hlv31:=aZk (val x) (val y)
  refine RA.all [7] kR rfl ?_
  refine RS.call rfl rfl rfl dC (bO (vl:=[(.bool sx),vr26]) pA rfl) (jN (n:=((val x)+(val y))) hr27 (show sg sx ((val x)+(val y))=zx+zy from (by rw[sg_add,ex,hs,ey]))) ?_ RS.nil
  rintro _ w32 ⟨rfl,he33⟩
  refine rm he33 ?_
  replace hE:=hE.nx he33
  have hq34:=oZ (show sg sx ((val x)+(val y))=zx+zy from (by rw[sg_add,ex,hs,ey]))
  have hlv35:(aB (zx+zy).natAbs).length=(aB ((val x)+(val y))).length:=by rw[hq34]
  replace hr27:=hr27.tr (Sm.ext he33)
  rw[hq34] at hr27
  refine RA.all [8] kR rfl ?_
  have hm40:=Ext.trans he20 (Ext.trans he25 he33)
  replace hb14:=hb14.ext hm40
  refine RS.runs rfl rfl rfl (bQ (vv:=(.agg #[(bd ((zx+zy)<0)),vr26])) (cs:=[(bd ((zx+zy)<0)),vr26]) (o:=0) cO rfl rfl rfl rfl (aF rfl (aF hr27.one bU)) hb14 bL) ?_ RS.nil
  rintro w36 ⟨hn37,hx38,hz39⟩
  refine⟨.inr (.inl kR),?_⟩
  replace hE:=hE.nb hx38 ge_b12
  have nb_hx38:=(Nb.of hb14 (aH rfl (aH rfl cG)))
  replace hb14:Bk w36 b12 49 [(bd ((zx+zy)<0)),vr26]:=hn37
  refine RA.done kR ?_
  refine cE ?_
  refine⟨[(.agg #[(bd ((zx+zy)<0)),vr26])],⟨⟨_,_,[(bd ((zx+zy)<0)),vr26],rfl,⟨_,cQ⟩,hb14.cells rfl,.inl ⟨iB,⟨_,_,cO⟩,rfl⟩⟩,trivial⟩,?_⟩
  replace hr27:=hr27.apn hx38 nb_hx38
  exact⟨⟨_,rfl,hr27,oM⟩,hE⟩
 have hb18p:=hb18
 have hs:sx≠sy:=by simpa using hb18
 refine bW ?_
 refine bB (wsr (rV (aM cQ rfl iM rfl) ?_))
 have hc41:=hb4.cell (j:=1) (u:=vx) rfl
 refine rV (aY bE jA rfl hc41) (rV (aM cQ rfl iM rfl) ?_)
 have hc42:=hb9.cell (j:=1) (u:=vy) rfl
 refine rV (aY bE jA rfl hc42) ?_
 have hm49:=Ext.trans he3 (Ext.trans he8 he13)
 replace hx:=hx.tr (Sm.ext hm49)
 replace hy:=hy.tr (Sm.ext hm49)
 refine cL aCs (aLn hx (by assumption) oS hy (by assumption) oS) rfl ?_
 rintro vq47 w43 ⟨⟨vr45,hq48,hr46⟩,he44⟩
 have hlv50:=bJ (x:=x) (by assumption)
 have hlv51:=bJ (x:=y) (by assumption)
 have hlv52:=aCr (val x) (val y)
 subst hq48
 replace hr46:=hr46.fr hE
 replace hE:=hE.nx he44
 refine mV (v:=(.tuple #[vr45,(bd ((val y)<=(val x)))])) rfl (rV (aI (v:=vr45) rfl rfl) (rV (aI (v:=(bd ((val y)<=(val x)))) rfl rfl) (aS (v:=vr45) rfl (aS (v:=(bd ((val y)<=(val x)))) rfl (RL.nil ?_)))))
 refine wsr (mV (v:=(bd ((val y)<=(val x)))) rfl (RL.nil ?_))
 refine wcD (p:=(val y)<=(val x)) rfl (λhb53 hb53p=>?_) (λhb53 hb53p=>?_)
 ·have hle:val y<=val x:=hb53p
  refine wsr (rV (aM cQ rfl ty4 rfl) ?_)
  replace hb4:=hb4.ext he44
  have hc54:=hb4.cell (j:=0) (u:=(.bool sx)) rfl
  refine rV (aY uT4 ag4 rfl hc54) (mV (v:=vr45) rfl ?_)
  refine cL pA (jN (n:=((val x)-(val y))) hr46 (show sg sx ((val x)-(val y))=zx+zy from (by exact aLe ex ey hs hle))) rfl ?_
  rintro _ w55 ⟨rfl,he56⟩
  replace hE:=hE.nx he56
  have hq57:=oZ (show sg sx ((val x)-(val y))=zx+zy from (by exact aLe ex ey hs hle))
  have hlv58:(aB (zx+zy).natAbs).length=(aB ((val x)-(val y))).length:=by rw[hq57]
  replace hr46:=hr46.tr (Sm.ext he56)
  rw[hq57] at hr46
  replace hb14:=hb14.ext (Ext.trans he44 he56)
  refine RL.runs rfl rfl (bQ (vv:=(.agg #[(bd ((zx+zy)<0)),vr45])) (cs:=[(bd ((zx+zy)<0)),vr45]) (o:=0) cO rfl rfl rfl rfl (aF rfl (aF hr46.one bU)) hb14 bL) ?_
  rintro w59 ⟨hn60,hx61,hz62⟩
  replace hE:=hE.nb hx61 ge_b12
  have nb_hx61:=(Nb.of hb14 (aH rfl (aH rfl cG)))
  replace hb14:Bk w59 b12 49 [(bd ((zx+zy)<0)),vr45]:=hn60
  refine RL.nil ?_
  refine cE ?_
  refine⟨[(.agg #[(bd ((zx+zy)<0)),vr45])],⟨⟨_,_,[(bd ((zx+zy)<0)),vr45],rfl,⟨_,cQ⟩,hb14.cells rfl,.inl ⟨iB,⟨_,_,cO⟩,rfl⟩⟩,trivial⟩,?_⟩
  replace hr46:=hr46.apn hx61 nb_hx61
  exact⟨⟨_,rfl,hr46,oM⟩,hE⟩
 have hle:¬val y<=val x:=hb53p
 refine bW ?_
 refine wsr (rV (aM cQ rfl iM rfl) ?_)
 replace hb9:=hb9.ext he44
 have hc63:=hb9.cell (j:=1) (u:=vy) rfl
 refine rV (aY bE jA rfl hc63) (rV (aM cQ rfl iM rfl) ?_)
 replace hb4:=hb4.ext he44
 have hc64:=hb4.cell (j:=1) (u:=vx) rfl
 refine rV (aY bE jA rfl hc64) ?_
 replace hy:=hy.tr (Sm.ext he44)
 replace hx:=hx.tr (Sm.ext he44)
 refine cL aCs (aLn hy (by assumption) oS hx (by assumption) oS) rfl ?_
 rintro vq69 w65 ⟨⟨vr67,hq70,hr68⟩,he66⟩
 have hlv71:=bJ (x:=y) (by assumption)
 have hlv72:=bJ (x:=x) (by assumption)
 have hlv73:=aCr (val y) (val x)
 subst hq70
 replace hr68:=hr68.fr hE
 replace hE:=hE.nx he66
 refine mV (v:=(.tuple #[vr67,(bd ((val x)<=(val y)))])) rfl (rV (aI (v:=vr67) rfl rfl) (rV (aI (v:=(bd ((val x)<=(val y)))) rfl rfl) (aS (v:=vr67) rfl (aS (v:=(bd ((val x)<=(val y)))) rfl (RL.nil ?_)))))
 refine wsr (rV (aM cQ rfl ty4 rfl) ?_)
 replace hb9:=hb9.ext he66
 have hc74:=hb9.cell (j:=0) (u:=(.bool sy)) rfl
 refine rV (aY uT4 ag4 rfl hc74) (mV (v:=vr67) rfl ?_)
 refine cL pA (jN (n:=((val y)-(val x))) hr68 (show sg sy ((val y)-(val x))=zx+zy from (by exact aLf ex ey hs hle))) rfl ?_
 rintro _ w75 ⟨rfl,he76⟩
 replace hE:=hE.nx he76
 have hq77:=oZ (show sg sy ((val y)-(val x))=zx+zy from (by exact aLf ex ey hs hle))
 have hlv78:(aB (zx+zy).natAbs).length=(aB ((val y)-(val x))).length:=by rw[hq77]
 replace hr68:=hr68.tr (Sm.ext he76)
 rw[hq77] at hr68
 have hm83:=Ext.trans he44 (Ext.trans he66 he76)
 replace hb14:=hb14.ext hm83
 refine RL.runs rfl rfl (bQ (vv:=(.agg #[(bd ((zx+zy)<0)),vr67])) (cs:=[(bd ((zx+zy)<0)),vr67]) (o:=0) cO rfl rfl rfl rfl (aF rfl (aF hr68.one bU)) hb14 bL) ?_
 rintro w79 ⟨hn80,hx81,hz82⟩
 replace hE:=hE.nb hx81 ge_b12
 have nb_hx81:=(Nb.of hb14 (aH rfl (aH rfl cG)))
 replace hb14:Bk w79 b12 49 [(bd ((zx+zy)<0)),vr67]:=hn80
 refine RL.nil ?_
 refine cE ?_
 refine⟨[(.agg #[(bd ((zx+zy)<0)),vr67])],⟨⟨_,_,[(bd ((zx+zy)<0)),vr67],rfl,⟨_,cQ⟩,hb14.cells rfl,.inl ⟨iB,⟨_,_,cO⟩,rfl⟩⟩,trivial⟩,?_⟩
 replace hr68:=hr68.apn hx81 nb_hx81
 exact⟨⟨_,rfl,hr68,oM⟩,hE⟩
theorem sI {w:World} {sx:Bool} {Dx:Nat->TypeId->Prop} {vx:Value} {x:List Nat} (hx:Sg (gN .u32) Dx w vx x) (lmx:Lm x) (lnx:x.length<=274877906944) {zx:Int} (ex:sg sx (val x)=zx) {sy:Bool} {Dy:Nat->TypeId->Prop} {vy:Value} {y:List Nat} (hy:Sg (gN .u32) Dy w vy y) (lmy:Lm y) (lny:y.length<=274877906944) {zy:Int} (ey:sg sy (val y)=zy):
 Calls Tryz.prog 84 #[(.agg #[(.bool sx),vx]),(.agg #[(.bool sy),vy])] w λe w'=>∃v,e= .returned v∧(∃vr,v= .agg #[.bool (decide ((zx*zy)<0)),vr]∧Sg (gN .u32) (λb T=>w.heap.size<=b∧T=131) w' vr (aB (zx*zy).natAbs)∧(aB (zx*zy).natAbs).length<=x.length+y.length)∧Ext w w':=by
 have hE:Below w.heap.size w w:=Below.refl _ _
 have hlzx:=kS lmx ex
 have hlzy:=kS lmy ey
 refine bH (n:=16) (rs:=[.cell 4 49]) func84 rfl rfl rfl bL ?_
 refine cV λF0 hF0=>?_
 refine wsr ?_
 refine rU (fZ (vv:=(.agg #[(.bool sx),vx])) (cs:=[(.bool sx),vx]) (hF0 0) rfl) ?_
 rintro _ w1 ⟨b2,rfl,hs5,hb4,he3⟩
 have ge_b2:=hE.ge hs5
 replace hE:=hE.nx he3
 refine rU (fZ (vv:=(.agg #[(.bool sy),vy])) (cs:=[(.bool sy),vy]) (hF0 1) rfl) ?_
 rintro _ w6 ⟨b7,rfl,hs10,hb9,he8⟩
 have lt_b2_b7:=Nat.lt_of_lt_of_eq hb4.lt hs10.symm
 have ge_b7:=hE.ge hs10
 replace hE:=hE.nx he8
 refine rU (cZ (cs:=[(.bool false),(.slice none 0 0)]) cO rfl) ?_
 rintro _ w11 ⟨b12,rfl,hs15,hb14,he13⟩
 have lt_b7_b12:=Nat.lt_of_lt_of_eq hb9.lt hs15.symm
 have ge_b12:=hE.ge hs15
 replace hE:=hE.nx he13
 refine RL.nil (bB ?_)
 refine fI fV λw16 he17=>?_
 replace hE:=hE.nx he17
 refine ra 0 rfl (λ_=>aM cQ rfl ty4 rfl) ?_
 have hm19:=Ext.trans he8 (Ext.trans he13 he17)
 replace hb4:=hb4.ext hm19
 have hc18:=hb4.cell (j:=0) (u:=(.bool sx)) rfl
 refine RA.rd 1 rfl kR rfl rfl rfl dC (Ext.refl _) (λu hu=>aY uT4 ag4 rfl (bT hu hc18)) ?_
 refine ra 2 rfl (λ_=>aM cQ rfl ty4 rfl) ?_
 replace hb9:=hb9.ext (Ext.trans he13 he17)
 have hc20:=hb9.cell (j:=0) (u:=(.bool sy)) rfl
 refine RA.rd 3 rfl kR rfl rfl rfl dC (Ext.refl _) (λu hu=>aY uT4 ag4 rfl (bT hu hc20)) ?_
 refine ra 4 rfl (λ_=>aKg uT4 rfl rfl) ?_
 refine ra 5 rfl (λ_=>aM cQ rfl iM rfl) ?_
 have hc21:=hb4.cell (j:=1) (u:=vx) rfl
 refine RA.rd 6 rfl kR rfl rfl rfl dC (Ext.refl _) (λu hu=>aY bE jA rfl (bT hu hc21)) ?_
 refine ra 7 rfl (λ_=>aM cQ rfl iM rfl) ?_
 have hc22:=hb9.cell (j:=1) (u:=vy) rfl
 refine RA.rd 8 rfl kR rfl rfl rfl dC (Ext.refl _) (λu hu=>aY bE jA rfl (bT hu hc22)) ?_
 refine RA.all [9] kR rfl ?_
 have hm27:=Ext.trans he3 (Ext.trans he8 (Ext.trans he13 he17))
 replace hx:=hx.tr (Sm.ext hm27)
 replace hy:=hy.tr (Sm.ext hm27)
 refine RS.call rfl rfl rfl dC (bO (vl:=[vx,vy]) aAo rfl) (aAq hx (by assumption) oS hy (by assumption) oS) ?_ RS.nil
 rintro vr25 w23 ⟨hr26,he24⟩
 refine rm he24 ?_
 replace hr26:=hr26.fr hE
 replace hE:=hE.nx he24
 have hlv28:=bJ (x:=x) (by assumption)
 have hlv29:=bJ (x:=y) (by assumption)
 have hlv30:=uB (val x) (val y)
 refine RA.all [10] kR rfl ?_
 refine RS.call rfl rfl rfl dC (bO (vl:=[(.bool (sx !=sy)),vr25]) pA rfl) (jN (n:=((val x)*(val y))) hr26 (show sg (sx !=sy) ((val x)*(val y))=zx*zy from (by rw[sg_mul,ex,ey]))) ?_ RS.nil
 rintro _ w31 ⟨rfl,he32⟩
 refine rm he32 ?_
 replace hE:=hE.nx he32
 have hq33:=oZ (show sg (sx !=sy) ((val x)*(val y))=zx*zy from (by rw[sg_mul,ex,ey]))
 have hlv34:(aB (zx*zy).natAbs).length=(aB ((val x)*(val y))).length:=by rw[hq33]
 replace hr26:=hr26.tr (Sm.ext he32)
 rw[hq33] at hr26
 refine RA.all [11] kR rfl ?_
 have hm39:=Ext.trans he17 (Ext.trans he24 he32)
 replace hb14:=hb14.ext hm39
 refine RS.runs rfl rfl rfl (bQ (vv:=(.agg #[(bd ((zx*zy)<0)),vr25])) (cs:=[(bd ((zx*zy)<0)),vr25]) (o:=0) cO rfl rfl rfl rfl (aF rfl (aF hr26.one bU)) hb14 bL) ?_ RS.nil
 rintro w35 ⟨hn36,hx37,hz38⟩
 refine⟨.inr (.inl kR),?_⟩
 replace hE:=hE.nb hx37 ge_b12
 have nb_hx37:=(Nb.of hb14 (aH rfl (aH rfl cG)))
 replace hb14:Bk w35 b12 49 [(bd ((zx*zy)<0)),vr25]:=hn36
 refine RA.done kR ?_
 refine cE ?_
 refine⟨[(.agg #[(bd ((zx*zy)<0)),vr25])],⟨⟨_,_,[(bd ((zx*zy)<0)),vr25],rfl,⟨_,cQ⟩,hb14.cells rfl,.inl ⟨iB,⟨_,_,cO⟩,rfl⟩⟩,trivial⟩,?_⟩
 replace hr26:=hr26.apn hx37 nb_hx37
 exact⟨⟨_,rfl,hr26,oM⟩,hE⟩
theorem bAe {w:World} {k:Int} (hk:-9223372036854775808<=k∧k<=9223372036854775807):
 Calls Tryz.prog 111 #[(iv k)] w λe w'=>∃v,e= .returned v∧(∃vr,v= .agg #[.bool (decide (k<0)),vr]∧Sg (gN .u32) (λb T=>w.heap.size<=b∧T=131) w' vr (aB k.natAbs)∧(aB k.natAbs).length<=2)∧Ext w w':=by
 have hE:Below w.heap.size w w:=Below.refl _ _
 refine bH (n:=14) (rs:=[.cell 2 49]) func111 rfl rfl rfl bL ?_
 refine cV λF0 hF0=>?_
 refine wsr ?_
 refine rU (cZ (cs:=[(.bool false),(.slice none 0 0)]) cO rfl) ?_
 rintro _ w1 ⟨b2,rfl,hs5,hb4,he3⟩
 have ge_b2:=hE.ge hs5
 replace hE:=hE.nx he3
 refine RL.nil (bB (wsr (mV (v:=(iv k)) (hF0 0) (rV (eQ (k:=.i64) (a:=k) (b:=0) rfl rfl) (RL.nil ?_)))))
 refine wcD (p:=k<0) rfl (λhb6 hb6p=>?_) (λhb6 hb6p=>?_)
 ·refine wsr ?_
  refine mV (v:=(iv k)) (hF0 0) (rV (bR (k:=.u64) (a:=k) (c:=k+18446744073709551616) uT3 dB rfl (by rw[aAe];omega)) (rV (aFv (k:=.u64) (a:=k+18446744073709551616) (c:=(((-k).toNat:Nat):Int)) rfl (by rw[aAe];omega)) ?_))
  refine cL kL (kM oM) rfl ?_
  rintro vr9 w7 ⟨hr10,he8⟩
  replace hr10:=hr10.fr hE
  replace hE:=hE.nx he8
  have hlv11:=kK (n:=(-k).toNat) oM
  refine cL pA (jN (n:=((-k).toNat)) hr10 (show sg true ((-k).toNat)=k from (by rw[sg_t];omega))) rfl ?_
  rintro _ w12 ⟨rfl,he13⟩
  replace hE:=hE.nx he13
  have hq14:=oZ (show sg true ((-k).toNat)=k from (by rw[sg_t];omega))
  have hlv15:(aB k.natAbs).length=(aB ((-k).toNat)).length:=by rw[hq14]
  replace hr10:=hr10.tr (Sm.ext he13)
  rw[hq14] at hr10
  replace hb4:=hb4.ext (Ext.trans he8 he13)
  refine RL.runs rfl rfl (bQ (vv:=(.agg #[(bd (k<0)),vr9])) (cs:=[(bd (k<0)),vr9]) (o:=0) cO rfl rfl rfl rfl (aF rfl (aF hr10.one bU)) hb4 bL) ?_
  rintro w16 ⟨hn17,hx18,hz19⟩
  replace hE:=hE.nb hx18 ge_b2
  have nb_hx18:=(Nb.of hb4 (aH rfl (aH rfl cG)))
  replace hb4:Bk w16 b2 49 [(bd (k<0)),vr9]:=hn17
  refine RL.nil ?_
  refine cE ?_
  refine⟨[(.agg #[(bd (k<0)),vr9])],⟨⟨_,_,[(bd (k<0)),vr9],rfl,⟨_,cQ⟩,hb4.cells rfl,.inl ⟨iB,⟨_,_,cO⟩,rfl⟩⟩,trivial⟩,?_⟩
  replace hr10:=hr10.apn hx18 nb_hx18
  exact⟨⟨_,rfl,hr10,oM⟩,hE⟩
 refine bW ?_
 refine wsr (mV (v:=(iv k)) (hF0 0) (rV (bR (k:=.u64) (a:=k) (c:=((k.toNat:Nat):Int)) uT3 dB rfl ((cX oM).trans oM)) ?_))
 refine cL kL (kM oM) rfl ?_
 rintro vr22 w20 ⟨hr23,he21⟩
 replace hr23:=hr23.fr hE
 replace hE:=hE.nx he21
 have hlv24:=kK (n:=k.toNat) oM
 refine cL pA (jN (n:=k.toNat) hr23 (show sg false k.toNat=k from (by rw[sg_f];omega))) rfl ?_
 rintro _ w25 ⟨rfl,he26⟩
 replace hE:=hE.nx he26
 have hq27:=oZ (show sg false k.toNat=k from (by rw[sg_f];omega))
 have hlv28:(aB k.natAbs).length=(aB k.toNat).length:=by rw[hq27]
 replace hr23:=hr23.tr (Sm.ext he26)
 rw[hq27] at hr23
 replace hb4:=hb4.ext (Ext.trans he21 he26)
 refine RL.runs rfl rfl (bQ (vv:=(.agg #[(bd (k<0)),vr22])) (cs:=[(bd (k<0)),vr22]) (o:=0) cO rfl rfl rfl rfl (aF rfl (aF hr23.one bU)) hb4 bL) ?_
 rintro w29 ⟨hn30,hx31,hz32⟩
 replace hE:=hE.nb hx31 ge_b2
 have nb_hx31:=(Nb.of hb4 (aH rfl (aH rfl cG)))
 replace hb4:Bk w29 b2 49 [(bd (k<0)),vr22]:=hn30
 refine RL.nil ?_
 refine cE ?_
 refine⟨[(.agg #[(bd (k<0)),vr22])],⟨⟨_,_,[(bd (k<0)),vr22],rfl,⟨_,cQ⟩,hb4.cells rfl,.inl ⟨iB,⟨_,_,cO⟩,rfl⟩⟩,trivial⟩,?_⟩
 replace hr23:=hr23.apn hx31 nb_hx31
 exact⟨⟨_,rfl,hr23,oM⟩,hE⟩
theorem aCx {w:World} {sx:Bool} {Dx:Nat->TypeId->Prop} {vx:Value} {x:List Nat} (hx:Sg (gN .u32) Dx w vx x) (lmx:Lm x) (lnx:x.length<=274877906944) {zx:Int} (ex:sg sx (val x)=zx):
 Calls Tryz.prog 79 #[(.agg #[(.bool sx),vx])] w λe w'=>∃v,e= .returned v∧v= .int .i64 (Int.sign zx)∧Ext w w':=by
 have hE:Below w.heap.size w w:=Below.refl _ _
 have hlzx:=kS lmx ex
 refine bH (n:=11) (rs:=[.tmp 2]) func79 rfl rfl rfl bL ?_
 refine cV λF0 hF0=>?_
 refine wsr ?_
 refine rU (fZ (vv:=(.agg #[(.bool sx),vx])) (cs:=[(.bool sx),vx]) (hF0 0) rfl) ?_
 rintro _ w1 ⟨b2,rfl,hs5,hb4,he3⟩
 have ge_b2:=hE.ge hs5
 replace hE:=hE.nx he3
 refine aS (v:=(iv 0)) rfl (RL.nil (bB ?_))
 refine cF ?_
 refine wsr (rV (aM cQ rfl iM rfl) ?_)
 have hc6:=hb4.cell (j:=1) (u:=vx) rfl
 refine rV (aY bE jA rfl hc6) ?_
 replace hx:=hx.tr (Sm.ext he3)
 refine cL mU (gO hx (by assumption) oS (Sg.nil (g:=gN .u32) (D:=(λb T=>w.heap.size<=b∧T=131))) Lm.nil oS) rfl ?_
 rintro vq10 w7 ⟨hq9,he8⟩
 subst hq9
 replace hE:=hE.nx he8
 refine rV (iW (k:=.i64) (a:=cmpI (((val x):Nat):Int) (((val ([])):Nat):Int)) (b:=0) rfl rfl) (aS (v:=(bd ((cmpI (((val x):Nat):Int) (((val ([])):Nat):Int))=0))) rfl (RL.nil ?_))
 refine wcD (p:=(cmpI (((val x):Nat):Int) (((val ([])):Nat):Int))=0) rfl (λhb11 hb11p=>?_) (λhb11 hb11p=>?_)
 ·have hz:val x=0:=by have h9:=kT.1 hb11p;have h8:val []=0:=rfl;omega
  refine wsr (aS (v:=(iv 0)) rfl (RL.nil ?_))
  refine cE ?_
  refine⟨[(iv 0)],⟨rfl,trivial⟩,?_⟩
  exact⟨aQ (Int.sign_eq_zero_iff_zero.2 (by rw[<-ex,hz,bG])).symm,hE⟩
 have hz:val x≠0:=λh=>hb11p (kT.2 (by rw[h];rfl))
 refine wsr (rV (aM cQ rfl ty4 rfl) ?_)
 replace hb4:=hb4.ext he8
 have hc12:=hb4.cell (j:=0) (u:=(.bool sx)) rfl
 refine rV (aY uT4 ag4 rfl hc12) (aS (v:=(.bool sx)) rfl (RL.nil ?_))
 refine kO (b:=sx) rfl (λhb13=>?_) (λhb13=>?_)
 ·have hb13p:=hb13
  have hsx:sx=true:=hb13
  refine wsr (aS (v:=(iv (-1))) rfl (RL.nil ?_))
  refine cE ?_
  refine⟨[(iv (-1))],⟨rfl,trivial⟩,?_⟩
  exact⟨aQ (Int.sign_eq_neg_one_of_neg (by rw[<-ex];exact cM.2 ⟨hsx,by omega⟩)).symm,hE⟩
 have hb13p:=hb13
 have hsx:sx=false:=hb13
 refine bW ?_
 refine wsr (aS (v:=(iv 1)) rfl (RL.nil ?_))
 refine cE ?_
 refine⟨[(iv 1)],⟨rfl,trivial⟩,?_⟩
 exact⟨aQ (Int.sign_eq_one_of_pos (by rw[<-ex,hsx,sg_f];omega)).symm,hE⟩
theorem aJf {w:World} {sx:Bool} {Dx:Nat->TypeId->Prop} {vx:Value} {x:List Nat} (hx:Sg (gN .u32) Dx w vx x) (lmx:Lm x) (lnx:x.length<=274877906944) {zx:Int} (ex:sg sx (val x)=zx) {sy:Bool} {Dy:Nat->TypeId->Prop} {vy:Value} {y:List Nat} (hy:Sg (gN .u32) Dy w vy y) (lmy:Lm y) (lny:y.length<=274877906944) {zy:Int} (ey:sg sy (val y)=zy):
 Calls Tryz.prog 171 #[(.agg #[(.bool sx),vx]),(.agg #[(.bool sy),vy])] w λe w'=>∃v,e= .returned v∧v= .int .i64 (cmpI zx zy)∧Ext w w':=by
 have hE:Below w.heap.size w w:=Below.refl _ _
 have hlzx:=kS lmx ex
 have hlzy:=kS lmy ey
 refine bH (n:=32) (rs:=[.tmp 4]) func171 rfl rfl rfl bL ?_
 refine cV λF0 hF0=>?_
 refine wsr ?_
 refine rU (fZ (vv:=(.agg #[(.bool sx),vx])) (cs:=[(.bool sx),vx]) (hF0 0) rfl) ?_
 rintro _ w1 ⟨b2,rfl,hs5,hb4,he3⟩
 have ge_b2:=hE.ge hs5
 replace hE:=hE.nx he3
 refine rU (fZ (vv:=(.agg #[(.bool sy),vy])) (cs:=[(.bool sy),vy]) (hF0 1) rfl) ?_
 rintro _ w6 ⟨b7,rfl,hs10,hb9,he8⟩
 have lt_b2_b7:=Nat.lt_of_lt_of_eq hb4.lt hs10.symm
 have ge_b7:=hE.ge hs10
 replace hE:=hE.nx he8
 refine aS (v:=(iv 0)) rfl (RL.nil (bB ?_))
 refine fI fV λw11 he12=>?_
 replace hE:=hE.nx he12
 replace hb4:=hb4.ext (Ext.trans he8 he12)
 have hc13:=hb4.cells (o:=0) (cs:=[(.bool sx),vx]) rfl
 refine RA.rd 0 rfl kR rfl rfl rfl dC (Ext.refl _) (λu hu=>bX (o:=0) (cs:=[(.bool sx),vx]) cQ iB cO rfl (λj v hj=>bT hu (hc13 j v hj))) ?_
 replace hb9:=hb9.ext he12
 have hc14:=hb9.cells (o:=0) (cs:=[(.bool sy),vy]) rfl
 refine RA.rd 2 rfl kR rfl rfl rfl dC (Ext.refl _) (λu hu=>bX (o:=0) (cs:=[(.bool sy),vy]) cQ iB cO rfl (λj v hj=>bT hu (hc14 j v hj))) ?_
 refine RA.all [1] kR rfl ?_
 have hm17:=Ext.trans he3 (Ext.trans he8 he12)
 replace hx:=hx.tr (Sm.ext hm17)
 refine RS.call rfl rfl rfl dC (bO (vl:=[(.agg #[(.bool sx),vx])]) aKw rfl) (aCx hx (by assumption) oS (show sg sx (val x)=zx from ex)) ?_ RS.nil
 rintro _ w15 ⟨rfl,he16⟩
 refine rm he16 ?_
 replace hE:=hE.nx he16
 refine RA.all [3] kR rfl ?_
 have hm20:=Ext.trans hm17 he16
 replace hy:=hy.tr (Sm.ext hm20)
 refine RS.call rfl rfl rfl dC (bO (vl:=[(.agg #[(.bool sy),vy])]) aKw rfl) (aCx hy (by assumption) oS (show sg sy (val y)=zy from ey)) ?_ RS.nil
 rintro _ w18 ⟨rfl,he19⟩
 refine rm he19 ?_
 replace hE:=hE.nx he19
 refine ra 4 rfl (λ_=>bS (v:=(iv (Int.sign zx))) rfl) ?_
 refine ra 5 rfl (λ_=>bS (v:=(iv (Int.sign zy))) rfl) ?_
 refine RA.done kR ?_
 refine bB ?_
 refine cF ?_
 refine wsr (mV (v:=(iv (Int.sign zx))) rfl (mV (v:=(iv (Int.sign zy))) rfl (rV (eQ (k:=.i64) (a:=Int.sign zx) (b:=Int.sign zy) rfl rfl) (aS (v:=(bd ((Int.sign zx)<(Int.sign zy)))) rfl (RL.nil ?_)))))
 refine wcD (p:=(Int.sign zx)<(Int.sign zy)) rfl (λhb21 hb21p=>?_) (λhb21 hb21p=>?_)
 ·have hlt:=aLv hb21p
  refine wsr (aS (v:=(iv (-1))) rfl (RL.nil ?_))
  refine cE ?_
  refine⟨[(iv (-1))],⟨rfl,trivial⟩,?_⟩
  exact⟨aQ (by unfold cmpI;rw[if_pos hlt]),hE⟩
 have hs1:=hb21p
 refine wsr (mV (v:=(iv (Int.sign zx))) rfl (mV (v:=(iv (Int.sign zy))) rfl (rV (oL (k:=.i64) (a:=Int.sign zx) (b:=Int.sign zy) rfl rfl) (aS (v:=(bd ((Int.sign zy)<(Int.sign zx)))) rfl (RL.nil ?_)))))
 refine wcD (p:=(Int.sign zy)<(Int.sign zx)) rfl (λhb22 hb22p=>?_) (λhb22 hb22p=>?_)
 ·have hgt:=aLv hb22p
  refine wsr (aS (v:=(iv 1)) rfl (RL.nil ?_))
  refine cE ?_
  refine⟨[(iv 1)],⟨rfl,trivial⟩,?_⟩
  exact⟨aQ (by unfold cmpI;rw[if_neg oM,if_pos hgt]),hE⟩
 have hs2:=hb22p
 have hca:=aUq hs1 hs2
 refine wsr (mV (v:=(iv (Int.sign zx))) rfl (rV (eQ (k:=.i64) (a:=Int.sign zx) (b:=0) rfl rfl) (aS (v:=(bd ((Int.sign zx)<0))) rfl (RL.nil ?_))))
 refine wcD (p:=(Int.sign zx)<0) rfl (λhb23 hb23p=>?_) (λhb23 hb23p=>?_)
 ·have hs3:=hb23p
  refine wsr (rV (aM cQ rfl iM rfl) ?_)
  replace hb9:=hb9.ext (Ext.trans he16 he19)
  have hc24:=hb9.cell (j:=1) (u:=vy) rfl
  refine rV (aY bE jA rfl hc24) (rV (aM cQ rfl iM rfl) ?_)
  replace hb4:=hb4.ext (Ext.trans he16 he19)
  have hc25:=hb4.cell (j:=1) (u:=vx) rfl
  refine rV (aY bE jA rfl hc25) ?_
  replace hy:=hy.tr (Sm.ext he19)
  replace hx:=hx.tr (Sm.ext (Ext.trans he16 he19))
  refine cL mU (gO hy (by assumption) oS hx (by assumption) oS) rfl ?_
  rintro vq29 w26 ⟨hq28,he27⟩
  subst hq28
  replace hE:=hE.nx he27
  refine aS (v:=(iv (cmpI (((val y):Nat):Int) (((val x):Nat):Int)))) rfl (RL.nil ?_)
  refine cE ?_
  refine⟨[(iv (cmpI (((val y):Nat):Int) (((val x):Nat):Int)))],⟨rfl,trivial⟩,?_⟩
  have ax:zx.natAbs=val x:=by rw[<-ex,sg_abs]
  have ay:zy.natAbs=val y:=by rw[<-ey,sg_abs]
  rw[ax,ay] at hca
  exact⟨aQ (hca.1 hs3),hE⟩
 have hs3:=hb23p
 refine bW ?_
 refine wsr (rV (aM cQ rfl iM rfl) ?_)
 replace hb4:=hb4.ext (Ext.trans he16 he19)
 have hc30:=hb4.cell (j:=1) (u:=vx) rfl
 refine rV (aY bE jA rfl hc30) (rV (aM cQ rfl iM rfl) ?_)
 replace hb9:=hb9.ext (Ext.trans he16 he19)
 have hc31:=hb9.cell (j:=1) (u:=vy) rfl
 refine rV (aY bE jA rfl hc31) ?_
 replace hx:=hx.tr (Sm.ext (Ext.trans he16 he19))
 replace hy:=hy.tr (Sm.ext he19)
 refine cL mU (gO hx (by assumption) oS hy (by assumption) oS) rfl ?_
 rintro vq35 w32 ⟨hq34,he33⟩
 subst hq34
 replace hE:=hE.nx he33
 refine aS (v:=(iv (cmpI (((val x):Nat):Int) (((val y):Nat):Int)))) rfl (RL.nil ?_)
 refine cE ?_
 refine⟨[(iv (cmpI (((val x):Nat):Int) (((val y):Nat):Int)))],⟨rfl,trivial⟩,?_⟩
 have ax:zx.natAbs=val x:=by rw[<-ex,sg_abs]
 have ay:zy.natAbs=val y:=by rw[<-ey,sg_abs]
 rw[ax,ay] at hca
 exact⟨aQ (hca.2 hs3),hE⟩
end Go.Proofs.YtlhdigjbokkbiaaGreat.W
namespace Go.Vm
theorem nV {z:Int} {d:Nat} (hd:d≠0):(Rat.divInt z (d:Int)).num.natAbs=z.natAbs/Nat.gcd z.natAbs d∧(Rat.divInt z (d:Int)).den=d/Nat.gcd z.natAbs d∧((Rat.divInt z (d:Int)).num<0↔z<0):=by
 have hz:(d:Int)≠0:=by omega
 have hlaw:=(aAl (zx:=z) hz).2
 have hg:Int.gcd z (d:Int)=Nat.gcd z.natAbs d:=rfl
 rw[hg] at hlaw
 have hgp:0<Nat.gcd z.natAbs d:=Nat.gcd_pos_of_pos_right _ oM
 have hn:¬((d:Int)/((Nat.gcd z.natAbs d:Nat):Int)<0):=by
  have:=Int.ediv_nonneg (a:=(d:Int)) (b:=((Nat.gcd z.natAbs d:Nat):Int)) oM oM
  omega
 obtain⟨h1,h2⟩:=hlaw hn
 have hdv:((Nat.gcd z.natAbs d:Nat):Int)∣z:=Int.ofNat_dvd_left.2 (Nat.gcd_dvd_left _ _)
 refine⟨?_,?_,?_⟩
 ·rw[h1,Int.natAbs_ediv_of_dvd hdv,Int.natAbs_natCast]
 ·rw[h2,<-Int.natCast_ediv,Int.natAbs_natCast]
 rw[h1]
 obtain⟨k,hk⟩:=hdv
 generalize hG:((Nat.gcd z.natAbs d:Nat):Int)=G at*
 have hGp:0<G:=by omega
 rw[hk,Int.mul_ediv_cancel_left _ oM]
 constructor
 ·intro h;exact Int.mul_neg_of_pos_of_neg hGp h
 intro h
 rcases Int.lt_or_le k 0 with h3|h3
 ·exact h3
 have:=Int.mul_nonneg (Int.le_of_lt hGp) h3;omega
theorem aLw {s:Bool} {n d:Nat} {q:Rat} (hd:d≠0) (h:dE s n d=q):Int.sign (sg s n)=Int.sign q.num:=by
 have hl:=nV (z:=sg s n) hd
 unfold dE at h
 rw[h] at hl
 rcases Int.lt_trichotomy (sg s n) 0 with h1|h1|h1
 ·rw[Int.sign_eq_neg_one_of_neg h1,Int.sign_eq_neg_one_of_neg (hl.2.2.2 h1)]
 ·have h2:q.num.natAbs=0:=by rw[hl.1,h1];simp
  rw[h1,show q.num=0 by omega]
 have h3:¬q.num<0:=λh4=>by have:=hl.2.2.1 h4;omega
 have h4:q.num.natAbs≠0:=by
  rw[hl.1]
  have hdv:Nat.gcd (sg s n).natAbs d∣(sg s n).natAbs:=Nat.gcd_dvd_left _ _
  have hp:=Nat.div_pos (Nat.le_of_dvd oM hdv) (Nat.gcd_pos_of_pos_right (sg s n).natAbs (by omega:0<d))
  omega
 rw[Int.sign_eq_one_of_pos h1,Int.sign_eq_one_of_pos oM]
theorem uK (b:Bool) (n:Nat):dE b n 0=0:=by unfold dE;exact Rat.divInt_zero _
theorem mJ {a b:Int} (ha:-2147483648<a∧a<2147483648) (hb:-2147483648<b∧b<2147483648):-4611686018427387904<a*b∧a*b<4611686018427387904:=by
 have h:(a*b).natAbs<=2147483647*2147483647:=by rw[Int.natAbs_mul];exact Nat.mul_le_mul oM oM
 omega
theorem eI {a b c d:Int} {p q:Rat} (hc:0<c) (hd:0<d) (h1:Rat.divInt a c=p) (h2:Rat.divInt b d=q):Rat.divInt (a*d+b*c) (c*d)=p+q:=by
 rw[<-h1,<-h2,Rat.divInt_add_divInt _ _ oM oM]
theorem lT {a b c d:Int} {p q:Rat} (h1:Rat.divInt a c=p) (h2:Rat.divInt b d=q):Rat.divInt (a*b) (c*d)=p*q:=by
 rw[<-h1,<-h2,Rat.divInt_mul_divInt]
theorem kU {a b c:Int} {p q:Rat} (hc:c≠0) (h1:Rat.divInt a c=p) (h2:Rat.divInt b c=q):Rat.divInt (a+b) c=p+q:=by
 rw[<-h1,<-h2,Rat.divInt_add_divInt _ _ hc hc,<-Int.add_mul,Rat.divInt_mul_right hc]
theorem aLx {a:Int} {c:Int} (hc:0<c):(Rat.divInt a c<0↔a<0):=by
 have h:=nV (z:=a) (d:=c.natAbs) oM
 rw[show((c.natAbs:Nat):Int)=c by omega] at h
 rw[<-h.2.2]
 have:=Rat.num_nonneg (q:=Rat.divInt a c)
 constructor
 ·intro h1
  rcases Int.lt_or_le (Rat.divInt a c).num 0 with h2|h2
  ·exact h2
  have:=this.1 h2;grind
 intro h1
 rcases Rat.le_total (a:=0) (b:=Rat.divInt a c) with h2|h2
 ·have:=this.2 h2;omega
 rcases Classical.em (Rat.divInt a c=0) with h3|h3
 ·rw[h3] at h1;exact absurd h1 dC
 grind
theorem tB {a b c d:Int} {p q:Rat} (hc:0<c) (hd:0<d) (h1:Rat.divInt a c=p) (h2:Rat.divInt b d=q):(a*d<b*c↔p<q):=by
 have h3:Rat.divInt (-b) d=-q:=by rw[<-Rat.neg_divInt,h2]
 have h4:=eI hc hd h1 h3
 have h5:=aLx (a:=a*d+ -b*c) (c:=c*d) (Int.mul_pos hc hd)
 rw[h4] at h5
 rw[Int.neg_mul] at h5
 constructor
 ·intro h;have:=h5.2 oM;grind
 intro h;have:=h5.1 (by grind);omega
theorem kV (p q:Rat):(aB (p+q).num.natAbs).length<=max ((aB p.num.natAbs).length+(aB q.den).length) ((aB q.num.natAbs).length+(aB p.den).length)+1∧(aB (p+q).den).length<=(aB p.den).length+(aB q.den).length:=by
 rw[<-aAm p q]
 have h1:=lN (a:=p.num*(q.den:Int)+q.num*(p.den:Int)) (b:=(p.den:Int)*(q.den:Int))
 have h2:=lO (a:=p.num*(q.den:Int)+q.num*(p.den:Int)) (b:=(p.den:Int)*(q.den:Int))
 have h3:=aKt (p.num*(q.den:Int)) (q.num*(p.den:Int))
 have h4:=oY p.num (q.den:Int)
 have h5:=oY q.num (p.den:Int)
 have h6:=oY (p.den:Int) (q.den:Int)
 have h7:=dS p
 rw[Int.natAbs_natCast] at h4 h5
 rw[Int.natAbs_natCast,Int.natAbs_natCast] at h6
 exact⟨by omega,by omega⟩
theorem uL (p q:Rat):(aB (p*q).num.natAbs).length<=(aB p.num.natAbs).length+(aB q.num.natAbs).length∧(aB (p*q).den).length<=(aB p.den).length+(aB q.den).length:=by
 rw[<-aKu p q]
 have h1:=lN (a:=p.num*q.num) (b:=(p.den:Int)*(q.den:Int))
 have h2:=lO (a:=p.num*q.num) (b:=(p.den:Int)*(q.den:Int))
 have h4:=oY p.num q.num
 have h6:=oY (p.den:Int) (q.den:Int)
 have h7:=dS p
 rw[Int.natAbs_natCast,Int.natAbs_natCast] at h6
 exact⟨by omega,by omega⟩
end Go.Vm
namespace Go.Proofs.YtlhdigjbokkbiaaGreat.W
open Go.Vg Go.RowKit _root_.Go.Proofs.Tryz
open Go.Vm
theorem pT {b c:Bool} {v u:Value} (h:b=c):Value.agg #[.bool b,v,u]= .agg #[.bool c,v,u]:=by rw[h]
def cmpQ (a b:Rat):Int:=if a<b then-1 else if b<a then 1 else 0
theorem mX (q:Rat):q.num<0↔q<0:=by
 have:=Rat.num_nonneg (q:=q)
 constructor
 ·intro h;rcases Rat.le_total (a:=0) (b:=q) with h1|h1
  ·have:=this.2 h1;omega
  rcases Classical.em (q=0) with h2|h2
  ·rw[h2] at h;exact absurd h dC
  grind
 intro h
 rcases Int.lt_or_le q.num 0 with h1|h1
 ·exact h1
 have:=this.1 h1;grind
theorem aGj (q:Rat):Int.sign q.num=0↔q=0:=by rw[<-Rat.num_eq_zero];exact Int.sign_eq_zero_iff_zero
theorem kA {w:World} {sx:Bool} {Dx Ex:Nat->TypeId->Prop} {vx ux:Value} {x dx:List Nat} (hx:Sg (gN .u32) Dx w vx x) (lmx:Lm x) (lnx:x.length<=68719476736) (hdx:Sg (gN .u32) Ex w ux dx) (lmdx:Lm dx) (lndx:dx.length<=68719476736) {qx:Rat} (ex:dE sx (val x) (val dx)=qx):
 Calls Tryz.prog 78 #[(.agg #[(.bool sx),vx,ux])] w λe w'=>∃v,e= .returned v∧(∃s' vn vd xn xd,v= .tuple #[.agg #[.bool s',vn],vd]∧Sg (gN .u32) (λ_ _=>True) w' vn xn∧Lm xn∧xn.length<=x.length∧Sg (gN .u32) (λ_ _=>True) w' vd xd∧Lm xd∧xd.length<=dx.length+1∧val xd≠0∧dE s' (val xn) (val xd)=qx)∧Ext w w':=by
 have hE:Below w.heap.size w w:=Below.refl _ _
 have hlqx:=oP lmx lmdx ex
 have hdqx:=dS qx
 refine bH (n:=14) (rs:=[.cell 2 49,.tmp 3]) func78 rfl rfl rfl bL ?_
 refine cV λF0 hF0=>?_
 refine wsr ?_
 refine rU (fZ (vv:=(.agg #[(.bool sx),vx,ux])) (cs:=[(.bool sx),vx,ux]) (hF0 0) rfl) ?_
 rintro _ w1 ⟨b2,rfl,hs5,hb4,he3⟩
 have ge_b2:=hE.ge hs5
 replace hE:=hE.nx he3
 refine rU (cZ (cs:=[(.bool false),(.slice none 0 0)]) cO rfl) ?_
 rintro _ w6 ⟨b7,rfl,hs10,hb9,he8⟩
 have lt_b2_b7:=Nat.lt_of_lt_of_eq hb4.lt hs10.symm
 have ge_b7:=hE.ge hs10
 replace hE:=hE.nx he8
 refine aS (v:=(.slice none (0) (0))) rfl (RL.nil (bB (wsr (rV (aM dT rfl iM rfl) ?_))))
 replace hb4:=hb4.ext he8
 have hc11:=hb4.cell (j:=2) (u:=ux) rfl
 refine rV (aY bE jA rfl hc11) ?_
 replace hdx:=hdx.tr (Sm.ext (Ext.trans he3 he8))
 refine cL mU (gO hdx (by assumption) oS (Sg.nil (g:=gN .u32) (D:=(λb T=>w.heap.size<=b∧T=131))) Lm.nil oS) rfl ?_
 rintro vq15 w12 ⟨hq14,he13⟩
 subst hq14
 replace hE:=hE.nx he13
 refine rV (iW (k:=.i64) (a:=cmpI (((val dx):Nat):Int) (((val ([])):Nat):Int)) (b:=0) rfl rfl) (RL.nil ?_)
 refine wcD (p:=(cmpI (((val dx):Nat):Int) (((val ([])):Nat):Int))=0) rfl (λhb16 hb16p=>?_) (λhb16 hb16p=>?_)
 ·have hz:val dx=0:=by have h9:=kT.1 hb16p;have h8:val []=0:=rfl;omega
  refine wsr (rV (eR (vl:=[]) (cs:=[(.bool false),(.slice none 0 0)]) cQ cO rfl (aAn cQ) rfl) ?_)
  refine rU (aAg (vl:=[(0,(.int .u32 1))]) (cs:=[(.int .u32 1)]) bE bM rfl dC (by first|(simp[Instr.fill,Value.cells];done)|rfl|kernel_rfl)) ?_
  rintro _ w17 ⟨b18,rfl,hs21,hb20,he19⟩
  replace hb9:=hb9.ext he13
  have lt_b7_b18:=Nat.lt_of_lt_of_eq hb9.lt hs21.symm
  have ge_b18:=hE.ge hs21
  replace hE:=hE.nx he19
  replace hb9:=hb9.ext he19
  refine RL.runs rfl rfl (bQ (vv:=(.agg #[(.bool false),(.slice none 0 0)])) (cs:=[(.bool false),(.slice none 0 0)]) (o:=0) cO rfl rfl rfl rfl (aF rfl (aF rfl bU)) hb9 bL) ?_
  rintro w22 ⟨hn23,hx24,hz25⟩
  replace hE:=hE.nb hx24 ge_b7
  have nb_hx24:=(Nb.of hb9 (aH rfl (aH rfl cG)))
  replace hb9:Bk w22 b7 49 [(.bool false),(.slice none 0 0)]:=hn23
  refine aS (v:=(.slice (some ⟨b18,0,none⟩) (1) (1))) rfl (RL.nil ?_)
  refine cE ?_
  refine⟨[(.agg #[(.bool false),(.slice none 0 0)]),(.slice (some ⟨b18,0,none⟩) (1) (1))],⟨⟨_,_,[(.bool false),(.slice none 0 0)],rfl,⟨_,cQ⟩,hb9.cells rfl,.inl ⟨iB,⟨_,_,cO⟩,rfl⟩⟩,⟨rfl,trivial⟩⟩,?_⟩
  replace hb20:=hb20.exc hx24 (Nat.ne_of_gt lt_b7_b18)
  exact⟨⟨_,_,_,[],[1],rfl,Sg.nil,Lm.nil,Nat.zero_le _,hb20.sg (g:=gN .u32) (D:=(λ_ _=>True)) (xs:=[1]) trivial rfl rfl dC,(by intro z hz;simp at hz;omega),by simp,by decide,by rw[<-ex,hz,uK];rfl⟩,hE⟩
 have hz:val dx≠0:=λh=>hb16p (kT.2 (by rw[h];rfl))
 refine bW ?_
 refine bB ?_
 refine aZy (λu=>Bk u b2 51 [(.bool sx),vx,ux]) fV λw26 he27=>?_
 replace hE:=hE.nx he27
 refine ra 0 rfl (λ_=>aM dT rfl cO rfl) ?_
 replace hb4:=hb4.ext (Ext.trans he13 he27)
 refine RA.rd 1 rfl kR rfl rfl rfl dC hb4 (λu hu=>bX (o:=0) (cs:=[(.bool sx),vx]) cQ iB cO rfl (hu.cells (o:=0) (cs:=[(.bool sx),vx]) rfl)) ?_
 refine ra 2 rfl (λ_=>aM dT rfl iM rfl) ?_
 refine RA.rd 3 rfl kR rfl rfl rfl dC hb4 (λu hu=>aY bE jA rfl (hu.cell (j:=2) (u:=ux) rfl)) ?_
 refine RA.all [4] kR rfl ?_
 replace hb9:=hb9.ext (Ext.trans he13 he27)
 refine RS.runs rfl rfl rfl (bQ (vv:=(.agg #[(.bool sx),vx])) (cs:=[(.bool sx),vx]) (o:=0) cO rfl rfl rfl rfl (aF rfl (aF hx.one bU)) hb9 bL) ?_ RS.nil
 rintro w30 ⟨hn31,hx32,hz33⟩
 replace hE:=hE.nb hx32 ge_b7
 have nb_hx32:=(Nb.of hb9 (aH rfl (aH rfl cG)))
 replace hb9:Bk w30 b7 49 [(.bool sx),vx]:=hn31
 replace hb4:=hb4.exc hx32 (Nat.ne_of_lt lt_b2_b7)
 refine⟨.inr (.inr hb4),?_⟩
 refine ra 5 rfl (λ_=>bS (v:=ux) rfl) ?_
 refine RA.done kR ?_
 refine cE ?_
 refine⟨[(.agg #[(.bool sx),vx]),ux],⟨⟨_,_,[(.bool sx),vx],rfl,⟨_,cQ⟩,hb9.cells rfl,.inl ⟨iB,⟨_,_,cO⟩,rfl⟩⟩,⟨rfl,trivial⟩⟩,?_⟩
 have hm34:=Ext.trans he3 (Ext.trans he8 (Ext.trans he13 he27))
 replace hx:=(hx.tr (Sm.ext hm34)).apn hx32 nb_hx32
 replace hdx:=(hdx.tr (Sm.ext (Ext.trans he13 he27))).apn hx32 nb_hx32
 exact⟨⟨_,_,_,_,_,rfl,hx.mono (λ_ _ _=>trivial),lmx,Nat.le_refl _,hdx.mono (λ_ _ _=>trivial),lmdx,Nat.le_succ _,hz,ex⟩,hE⟩
theorem pU {w:World} {sx:Bool} {Dx:Nat->TypeId->Prop} {vx:Value} {x:List Nat} (hx:Sg (gN .u32) Dx w vx x) (lmx:Lm x) (lnx:x.length<=137438953472) {zx:Int} (ex:sg sx (val x)=zx) {Dd:Nat->TypeId->Prop} {vd:Value} {d:List Nat} (hd:Sg (gN .u32) Dd w vd d) (lmd:Lm d) (lnd:d.length<=137438953472) (hnz:val d≠0):
 Calls Tryz.prog 83 #[(.agg #[(.bool sx),vx]),vd] w λe w'=>∃v,e= .returned v∧(∃vn vd,v= .agg #[.bool (decide ((Rat.divInt zx ((val d:Nat):Int)).num<0)),vn,vd]∧Sg (gN .u32) (λb T=>w.heap.size<=b∧T=131) w' vn (aB (Rat.divInt zx ((val d:Nat):Int)).num.natAbs)∧Sg (gN .u32) (λb T=>w.heap.size<=b∧T=131) w' vd (aB (Rat.divInt zx ((val d:Nat):Int)).den)∧(aB (Rat.divInt zx ((val d:Nat):Int)).num.natAbs).length<=x.length∧(aB (Rat.divInt zx ((val d:Nat):Int)).den).length<=d.length+1)∧Ext w w':=by
 have hE:Below w.heap.size w w:=Below.refl _ _
 have hlzx:=kS lmx ex
 have hlvd:=bJ lmd
 refine bH (n:=48) (rs:=[.cell 4 51]) func83 rfl rfl rfl bL ?_
 refine cV λF0 hF0=>?_
 refine wsr ?_
 refine rU (fZ (vv:=(.agg #[(.bool sx),vx])) (cs:=[(.bool sx),vx]) (hF0 0) rfl) ?_
 rintro _ w1 ⟨b2,rfl,hs5,hb4,he3⟩
 have ge_b2:=hE.ge hs5
 replace hE:=hE.nx he3
 refine rU (cZ (cs:=[(.bool false),(.slice none 0 0),(.slice none 0 0)]) dF rfl) ?_
 rintro _ w6 ⟨b7,rfl,hs10,hb9,he8⟩
 have lt_b2_b7:=Nat.lt_of_lt_of_eq hb4.lt hs10.symm
 have ge_b7:=hE.ge hs10
 replace hE:=hE.nx he8
 refine RL.nil (wsr ?_)
 replace hb4:=hb4.ext he8
 have hc11:=hb4.cells (o:=0) (cs:=[(.bool sx),vx]) rfl
 refine rV (bX (o:=0) (cs:=[(.bool sx),vx]) cQ iB cO rfl hc11) ?_
 replace hx:=hx.tr (Sm.ext (Ext.trans he3 he8))
 refine RL.call rfl rfl dC (bO (vl:=[(.agg #[(.bool sx),vx])]) aZn rfl) (bAd hx (by assumption) oS (show sg sx (val x)=zx from ex)) ?_
 rintro _ w12 ⟨⟨vr14,rfl,hr15,hl16⟩,he13⟩
 replace hr15:=hr15.fr hE
 replace hE:=hE.nx he13
 refine mV (v:=vd) (hF0 1) ?_
 have hm21:=Ext.trans he3 (Ext.trans he8 he13)
 replace hd:=hd.tr (Sm.ext hm21)
 refine cL xS (n_trim hd (by assumption) oS) rfl ?_
 rintro vr19 w17 ⟨hr20,he18⟩
 replace hr20:=hr20.fr hE
 replace hE:=hE.nx he18
 have hlt22:(aB (val d)).length<=d.length:=eG (by assumption)
 replace hb4:=hb4.ext (Ext.trans he13 he18)
 refine RL.runs rfl rfl (bQ (vv:=(.agg #[(bd (zx<0)),vr14])) (cs:=[(bd (zx<0)),vr14]) (o:=0) cO rfl rfl rfl rfl (aF rfl (aF hr15.one bU)) hb4 bL) ?_
 rintro w23 ⟨hn24,hx25,hz26⟩
 replace hE:=hE.nb hx25 ge_b2
 have nb_hx25:=(Nb.of hb4 (aH rfl (aH hx.nu cG)))
 replace hb4:Bk w23 b2 49 [(bd (zx<0)),vr14]:=hn24
 refine aS (v:=vr19) rfl (RL.nil (bB (wsr (rV (aM cQ rfl iM rfl) ?_))))
 have hc27:=hb4.cell (j:=1) (u:=vr14) rfl
 refine rV (aY bE jA rfl hc27) ?_
 obtain⟨A28,c29,hv30,hc31,hc32⟩:=hr15.len
 refine rV (cK bE hv30) (rV (iW (k:=.i64) (a:=(((aB zx.natAbs).length:Nat):Int)) (b:=0) rfl rfl) (RL.nil ?_))
 refine wcD (p:=(((aB zx.natAbs).length:Nat):Int)=0) rfl (λhb33 hb33p=>?_) (λhb33 hb33p=>?_)
 ·have hz0:zx=0:=by have h9:=eB.1 (show len zx.natAbs=0 by unfold len;omega);omega
  refine wsr ?_
  refine rU (aAg (vl:=[(0,(.int .u32 1))]) (cs:=[(.int .u32 1)]) bE bM rfl dC (by first|(simp[Instr.fill,Value.cells];done)|rfl|kernel_rfl)) ?_
  rintro _ w34 ⟨b35,rfl,hs38,hb37,he36⟩
  replace hb9:=(hb9.ext (Ext.trans he13 he18)).exc hx25 (Nat.ne_of_gt lt_b2_b7)
  have lt_b7_b35:=Nat.lt_of_lt_of_eq hb9.lt hs38.symm
  have ge_b35:=hE.ge hs38
  replace hE:=hE.nx he36
  refine rV (eR (vl:=[(1,(.slice (some ⟨b35,0,none⟩) (1) (1)))]) (cs:=[(.bool false),(.slice none 0 0),(.slice (some ⟨b35,0,none⟩) (1) (1))]) dT dF rfl (aIv dT) rfl) ?_
  replace hb9:=hb9.ext he36
  refine RL.runs rfl rfl (bQ (vv:=(.agg #[(.bool false),(.slice none 0 0),(.slice (some ⟨b35,0,none⟩) (1) (1))])) (cs:=[(.bool false),(.slice none 0 0),(.slice (some ⟨b35,0,none⟩) (1) (1))]) (o:=0) dF rfl rfl rfl rfl (aF rfl (aF rfl (aF rfl bU))) hb9 bL) ?_
  rintro w39 ⟨hn40,hx41,hz42⟩
  replace hE:=hE.nb hx41 ge_b7
  have nb_hx41:=(Nb.of hb9 (aH rfl (aH rfl (aH rfl cG))))
  replace hb9:Bk w39 b7 51 [(.bool false),(.slice none 0 0),(.slice (some ⟨b35,0,none⟩) (1) (1))]:=hn40
  refine RL.nil ?_
  refine cE ?_
  refine⟨[(.agg #[(.bool false),(.slice none 0 0),(.slice (some ⟨b35,0,none⟩) (1) (1))])],⟨⟨_,_,[(.bool false),(.slice none 0 0),(.slice (some ⟨b35,0,none⟩) (1) (1))],rfl,⟨_,dT⟩,hb9.cells rfl,.inl ⟨fH,⟨_,_,dF⟩,rfl⟩⟩,trivial⟩,?_⟩
  rw[hz0,Rat.zero_divInt]
  replace hb37:=hb37.exc hx41 (Nat.ne_of_gt lt_b7_b35)
  exact⟨⟨_,_,rfl,Sg.nil,hb37.sg (g:=gN .u32) (D:=(λb T=>w.heap.size<=b∧T=131)) (xs:=[1]) ⟨ge_b35,rfl⟩ rfl rfl dC,Nat.zero_le _,show(aB (0:Rat).den).length<=d.length+1 from Nat.succ_le_succ (Nat.zero_le _)⟩,hE⟩
 have hz0:zx≠0:=λh=>by rw[h] at hb33p;exact hb33p rfl
 have hgp:0<Nat.gcd zx.natAbs (val d):=Nat.gcd_pos_of_pos_right _ oM
 refine bW ?_
 refine wsr (rV (aM cQ rfl iM rfl) ?_)
 have hc43:=hb4.cell (j:=1) (u:=vr14) rfl
 refine rV (aY bE jA rfl hc43) (mV (v:=vr19) rfl ?_)
 replace hr15:=(hr15.tr (Sm.ext he18)).apn hx25 nb_hx25
 replace hr20:=hr20.apn hx25 nb_hx25
 refine cL aZo (bGw hr15 (aR _) oS hr20 (aR _) oS) rfl ?_
 rintro vr46 w44 ⟨hr47,he45⟩
 try rw[aW] at hr47
 try rw[aW] at hr47
 replace hr47:=hr47.fr hE
 replace hE:=hE.nx he45
 have hlv48:=aZl zx.natAbs (val d)
 refine aS (v:=vr46) rfl (RL.nil (bB (wsr (mV (v:=vr46) rfl ?_))))
 obtain⟨A49,c50,hv51,hc52,hc53⟩:=hr47.len
 refine rV (cK bE hv51) (rV (mI (k:=.i64) (a:=(((aB (Nat.gcd zx.natAbs (val d))).length:Nat):Int)) (b:=1) rfl rfl) (mV (v:=(bd ((((aB (Nat.gcd zx.natAbs (val d))).length:Nat):Int)≠1))) rfl ?_))
 rcases bD ((((aB (Nat.gcd zx.natAbs (val d))).length:Nat):Int)≠1) with ⟨hb54,hb54p⟩|⟨hb54,hb54p⟩
 ·refine RL.gno rfl rfl (aD hb54) rfl dC ?_
  refine RL.gno rfl rfl (aD hb54) rfl dC ?_
  refine RL.gno rfl rfl (aD hb54) rfl dC ?_
  refine RL.gno rfl rfl (aD hb54) rfl dC ?_
  refine rV (dV (v:=(.bool true)) (aD hb54) rfl) (RL.nil ?_)
  refine lK rfl ?_
  refine wsr (rV (aM cQ rfl iM rfl) ?_)
  replace hb4:=hb4.ext he45
  have hc55:=hb4.cell (j:=1) (u:=vr14) rfl
  refine rV (aY bE jA rfl hc55) (mV (v:=vr46) rfl ?_)
  replace hr15:=hr15.tr (Sm.ext he45)
  refine cL uG (mW hr15 (aR _) oS hr47 (aR _) oS) rfl ?_
  rintro vv62 w56 ⟨⟨vq58,vr60,hv63,hq59,hr61⟩,he57⟩
  simp only[aW] at hv63 hq59 hr61
  subst hv63
  have hlv64:=uD zx.natAbs (Nat.gcd zx.natAbs (val d))
  have hlv65:=pP zx.natAbs (Nat.gcd zx.natAbs (val d))
  have hlv66:=mT zx.natAbs (Nat.gcd zx.natAbs (val d))
  replace hq59:=hq59.fr hE
  replace hr61:=hr61.fr hE
  replace hE:=hE.nx he57
  refine mV (v:=(.tuple #[vq58,vr60,(bd ((Nat.gcd zx.natAbs (val d))≠0))])) rfl (rV (aI (v:=vq58) rfl rfl) (rV (aI (v:=vr60) rfl rfl) (rV (aI (v:=(bd ((Nat.gcd zx.natAbs (val d))≠0))) rfl rfl) (rV (aM cQ rfl iM rfl) ?_))))
  replace hb4:=hb4.ext he57
  refine RL.runs rfl rfl (bQ (vv:=vq58) (cs:=[vq58]) (o:=1) iM rfl rfl (rD hq59.one) rfl (aF hq59.one bU) hb4 bL) ?_
  rintro w67 ⟨hn68,hx69,hz70⟩
  replace hE:=hE.nb hx69 ge_b2
  have nb_hx69:=(Nb.of hb4 (aH rfl (aH hr15.nu cG)))
  replace hb4:Bk w67 b2 49 [(bd (zx<0)),vq58]:=hn68
  refine RL.nil (aV (mV (v:=vr19) rfl (mV (v:=vr46) rfl ?_)))
  replace hr20:=(hr20.tr (Sm.ext (Ext.trans he45 he57))).apn hx69 nb_hx69
  replace hr47:=(hr47.tr (Sm.ext he57)).apn hx69 nb_hx69
  refine cL uG (mW hr20 (aR _) oS hr47 (aR _) oS) rfl ?_
  rintro vv77 w71 ⟨⟨vq73,vr75,hv78,hq74,hr76⟩,he72⟩
  simp only[aW] at hv78 hq74 hr76
  subst hv78
  have hlv79:=uD (val d) (Nat.gcd zx.natAbs (val d))
  have hlv80:=pP (val d) (Nat.gcd zx.natAbs (val d))
  have hlv81:=mT (val d) (Nat.gcd zx.natAbs (val d))
  replace hq74:=hq74.fr hE
  replace hr76:=hr76.fr hE
  replace hE:=hE.nx he72
  refine mV (v:=(.tuple #[vq73,vr75,(bd ((Nat.gcd zx.natAbs (val d))≠0))])) rfl (rV (aI (v:=vq73) rfl rfl) (rV (aI (v:=vr75) rfl rfl) (rV (aI (v:=(bd ((Nat.gcd zx.natAbs (val d))≠0))) rfl rfl) (aS (v:=vq73) rfl (RL.nil ?_)))))
  refine wsr ?_
  replace hb4:=hb4.ext he72
  have hc82:=hb4.cells (o:=0) (cs:=[(bd (zx<0)),vq58]) rfl
  refine rV (bX (o:=0) (cs:=[(bd (zx<0)),vq58]) cQ iB cO rfl hc82) (mV (v:=vq73) rfl (rV (eR (vl:=[(0,(.agg #[(bd (zx<0)),vq58])),(1,vq73)]) (cs:=[(bd (zx<0)),vq58,vq73]) dT dF rfl (aIv dT) (by obtain⟨_,_,e0_,-,-⟩:=hq74.len;simp only[e0_];rfl)) ?_))
  replace hb9:=((((hb9.ext (Ext.trans he13 he18)).exc hx25 (Nat.ne_of_gt lt_b2_b7)).ext (Ext.trans he45 he57)).exc hx69 (Nat.ne_of_gt lt_b2_b7)).ext he72
  refine RL.runs rfl rfl (bQ (vv:=(.agg #[(bd (zx<0)),vq58,vq73])) (cs:=[(bd (zx<0)),vq58,vq73]) (o:=0) dF rfl rfl rfl rfl (aF rfl (aF hq59.one (aF hq74.one bU))) hb9 bL) ?_
  rintro w83 ⟨hn84,hx85,hz86⟩
  replace hE:=hE.nb hx85 ge_b7
  have nb_hx85:=(Nb.of hb9 (aH rfl (aH rfl (aH rfl cG))))
  replace hb9:Bk w83 b7 51 [(bd (zx<0)),vq58,vq73]:=hn84
  refine RL.nil ?_
  refine cE ?_
  refine⟨[(.agg #[(bd (zx<0)),vq58,vq73])],⟨⟨_,_,[(bd (zx<0)),vq58,vq73],rfl,⟨_,dT⟩,hb9.cells rfl,.inl ⟨fH,⟨_,_,dF⟩,rfl⟩⟩,trivial⟩,?_⟩
  have hlaw:=nV (z:=zx) hnz
  have hl1:=lN (a:=zx) (b:=((val d:Nat):Int))
  have hl2:=lO (a:=zx) (b:=((val d:Nat):Int))
  rw[Int.natAbs_natCast] at hl2
  replace hq59:=((hq59.apn hx69 nb_hx69).tr (Sm.ext he72)).apn hx85 nb_hx85
  replace hq74:=hq74.apn hx85 nb_hx85
  exact⟨⟨_,_,pT (decide_eq_decide.2 hlaw.2.2.symm),by rw[hlaw.1];exact hq59,by rw[hlaw.2.1];exact hq74,by omega,by omega⟩,hE⟩
 have hone:=aGg (n:=Nat.gcd zx.natAbs (val d)) oM
 refine RL.gval rfl rfl (aD hb54) rfl dC (aG (v:=vr46) rfl) ?_
 obtain⟨b87,o88,c89,hv90,hc91⟩:=hr47.ix (i:=0) (0) oM oM
 rw[show(aB (Nat.gcd zx.natAbs (val d))).getD (0) default=Nat.gcd zx.natAbs (val d) from hone.1] at hc91
 refine RL.gval rfl rfl (aD hb54) rfl dC (aJ (i:=0) bE bM hv90 rfl oM oM) ?_
 refine RL.gval rfl rfl (aD hb54) rfl dC (aY (v:=(.int .u32 (((Nat.gcd zx.natAbs (val d):Nat):Int)))) bN dR rfl hc91) ?_
 refine RL.gval rfl rfl (aD hb54) rfl dC (mI (k:=.u32) (a:=((Nat.gcd zx.natAbs (val d):Nat):Int)) (b:=1) rfl rfl) ?_
 refine rV (eP (v:=(bd (((Nat.gcd zx.natAbs (val d):Nat):Int)≠1))) (aD hb54) rfl) (RL.nil ?_)
 refine wcD (p:=((Nat.gcd zx.natAbs (val d):Nat):Int)≠1) rfl (λhb92 hb92p=>?_) (λhb92 hb92p=>?_)
 ·refine wsr ?_
  refine rV (aM cQ rfl iM rfl) ?_
  replace hb4:=hb4.ext he45
  have hc93:=hb4.cell (j:=1) (u:=vr14) rfl
  refine rV (aY bE jA rfl hc93) (mV (v:=vr46) rfl ?_)
  replace hr15:=hr15.tr (Sm.ext he45)
  refine cL uG (mW hr15 (aR _) oS hr47 (aR _) oS) rfl ?_
  rintro vv100 w94 ⟨⟨vq96,vr98,hv101,hq97,hr99⟩,he95⟩
  simp only[aW] at hv101 hq97 hr99
  subst hv101
  have hlv102:=uD zx.natAbs (Nat.gcd zx.natAbs (val d))
  have hlv103:=pP zx.natAbs (Nat.gcd zx.natAbs (val d))
  have hlv104:=mT zx.natAbs (Nat.gcd zx.natAbs (val d))
  replace hq97:=hq97.fr hE
  replace hr99:=hr99.fr hE
  replace hE:=hE.nx he95
  refine mV (v:=(.tuple #[vq96,vr98,(bd ((Nat.gcd zx.natAbs (val d))≠0))])) rfl (rV (aI (v:=vq96) rfl rfl) (rV (aI (v:=vr98) rfl rfl) (rV (aI (v:=(bd ((Nat.gcd zx.natAbs (val d))≠0))) rfl rfl) (rV (aM cQ rfl iM rfl) ?_))))
  replace hb4:=hb4.ext he95
  refine RL.runs rfl rfl (bQ (vv:=vq96) (cs:=[vq96]) (o:=1) iM rfl rfl (rD hq97.one) rfl (aF hq97.one bU) hb4 bL) ?_
  rintro w105 ⟨hn106,hx107,hz108⟩
  replace hE:=hE.nb hx107 ge_b2
  have nb_hx107:=(Nb.of hb4 (aH rfl (aH hr15.nu cG)))
  replace hb4:Bk w105 b2 49 [(bd (zx<0)),vq96]:=hn106
  refine RL.nil (aV (mV (v:=vr19) rfl (mV (v:=vr46) rfl ?_)))
  replace hr20:=(hr20.tr (Sm.ext (Ext.trans he45 he95))).apn hx107 nb_hx107
  replace hr47:=(hr47.tr (Sm.ext he95)).apn hx107 nb_hx107
  refine cL uG (mW hr20 (aR _) oS hr47 (aR _) oS) rfl ?_
  rintro vv115 w109 ⟨⟨vq111,vr113,hv116,hq112,hr114⟩,he110⟩
  simp only[aW] at hv116 hq112 hr114
  subst hv116
  have hlv117:=uD (val d) (Nat.gcd zx.natAbs (val d))
  have hlv118:=pP (val d) (Nat.gcd zx.natAbs (val d))
  have hlv119:=mT (val d) (Nat.gcd zx.natAbs (val d))
  replace hq112:=hq112.fr hE
  replace hr114:=hr114.fr hE
  replace hE:=hE.nx he110
  refine mV (v:=(.tuple #[vq111,vr113,(bd ((Nat.gcd zx.natAbs (val d))≠0))])) rfl (rV (aI (v:=vq111) rfl rfl) (rV (aI (v:=vr113) rfl rfl) (rV (aI (v:=(bd ((Nat.gcd zx.natAbs (val d))≠0))) rfl rfl) (aS (v:=vq111) rfl (RL.nil ?_)))))
  refine wsr ?_
  replace hb4:=hb4.ext he110
  have hc120:=hb4.cells (o:=0) (cs:=[(bd (zx<0)),vq96]) rfl
  refine rV (bX (o:=0) (cs:=[(bd (zx<0)),vq96]) cQ iB cO rfl hc120) (mV (v:=vq111) rfl (rV (eR (vl:=[(0,(.agg #[(bd (zx<0)),vq96])),(1,vq111)]) (cs:=[(bd (zx<0)),vq96,vq111]) dT dF rfl (aIv dT) (by obtain⟨_,_,e0_,-,-⟩:=hq112.len;simp only[e0_];rfl)) ?_))
  replace hb9:=((((hb9.ext (Ext.trans he13 he18)).exc hx25 (Nat.ne_of_gt lt_b2_b7)).ext (Ext.trans he45 he95)).exc hx107 (Nat.ne_of_gt lt_b2_b7)).ext he110
  refine RL.runs rfl rfl (bQ (vv:=(.agg #[(bd (zx<0)),vq96,vq111])) (cs:=[(bd (zx<0)),vq96,vq111]) (o:=0) dF rfl rfl rfl rfl (aF rfl (aF hq97.one (aF hq112.one bU))) hb9 bL) ?_
  rintro w121 ⟨hn122,hx123,hz124⟩
  replace hE:=hE.nb hx123 ge_b7
  have nb_hx123:=(Nb.of hb9 (aH rfl (aH rfl (aH rfl cG))))
  replace hb9:Bk w121 b7 51 [(bd (zx<0)),vq96,vq111]:=hn122
  refine RL.nil ?_
  refine cE ?_
  refine⟨[(.agg #[(bd (zx<0)),vq96,vq111])],⟨⟨_,_,[(bd (zx<0)),vq96,vq111],rfl,⟨_,dT⟩,hb9.cells rfl,.inl ⟨fH,⟨_,_,dF⟩,rfl⟩⟩,trivial⟩,?_⟩
  have hlaw:=nV (z:=zx) hnz
  have hl1:=lN (a:=zx) (b:=((val d:Nat):Int))
  have hl2:=lO (a:=zx) (b:=((val d:Nat):Int))
  rw[Int.natAbs_natCast] at hl2
  replace hq97:=((hq97.apn hx107 nb_hx107).tr (Sm.ext he110)).apn hx123 nb_hx123
  replace hq112:=hq112.apn hx123 nb_hx123
  exact⟨⟨_,_,pT (decide_eq_decide.2 hlaw.2.2.symm),by rw[hlaw.1];exact hq97,by rw[hlaw.2.1];exact hq112,by omega,by omega⟩,hE⟩
 have hg1:Nat.gcd zx.natAbs (val d)=1:=by omega
 refine bW ?_
 refine wsr ?_
 replace hb4:=hb4.ext he45
 have hc125:=hb4.cells (o:=0) (cs:=[(bd (zx<0)),vr14]) rfl
 refine rV (bX (o:=0) (cs:=[(bd (zx<0)),vr14]) cQ iB cO rfl hc125) (mV (v:=vr19) rfl (rV (eR (vl:=[(0,(.agg #[(bd (zx<0)),vr14])),(1,vr19)]) (cs:=[(bd (zx<0)),vr14,vr19]) dT dF rfl (aIv dT) (by obtain⟨_,_,e0_,-,-⟩:=hr20.len;simp only[e0_];rfl)) ?_))
 replace hb9:=((hb9.ext (Ext.trans he13 he18)).exc hx25 (Nat.ne_of_gt lt_b2_b7)).ext he45
 refine RL.runs rfl rfl (bQ (vv:=(.agg #[(bd (zx<0)),vr14,vr19])) (cs:=[(bd (zx<0)),vr14,vr19]) (o:=0) dF rfl rfl rfl rfl (aF rfl (aF hr15.one (aF hr20.one bU))) hb9 bL) ?_
 rintro w126 ⟨hn127,hx128,hz129⟩
 replace hE:=hE.nb hx128 ge_b7
 have nb_hx128:=(Nb.of hb9 (aH rfl (aH rfl (aH rfl cG))))
 replace hb9:Bk w126 b7 51 [(bd (zx<0)),vr14,vr19]:=hn127
 refine RL.nil ?_
 refine cE ?_
 refine⟨[(.agg #[(bd (zx<0)),vr14,vr19])],⟨⟨_,_,[(bd (zx<0)),vr14,vr19],rfl,⟨_,dT⟩,hb9.cells rfl,.inl ⟨fH,⟨_,_,dF⟩,rfl⟩⟩,trivial⟩,?_⟩
 have hlaw:=nV (z:=zx) hnz
 have hl1:=lN (a:=zx) (b:=((val d:Nat):Int))
 have hl2:=lO (a:=zx) (b:=((val d:Nat):Int))
 rw[Int.natAbs_natCast] at hl2
 rw[hg1,Nat.div_one,Nat.div_one] at hlaw
 replace hr15:=(hr15.tr (Sm.ext he45)).apn hx128 nb_hx128
 replace hr20:=(hr20.tr (Sm.ext he45)).apn hx128 nb_hx128
 exact⟨⟨_,_,pT (decide_eq_decide.2 hlaw.2.2.symm),by rw[hlaw.1];exact hr15,by rw[hlaw.2.1];exact hr20,by omega,by omega⟩,hE⟩
theorem lW {w:World} {sx:Bool} {Dx Ex:Nat->TypeId->Prop} {vx ux:Value} {x dx:List Nat} (hx:Sg (gN .u32) Dx w vx x) (lmx:Lm x) (lnx:x.length<=68719476736) (hdx:Sg (gN .u32) Ex w ux dx) (lmdx:Lm dx) (lndx:dx.length<=68719476736) {qx:Rat} (ex:dE sx (val x) (val dx)=qx):
 Calls Tryz.prog 81 #[(.agg #[(.bool sx),vx,ux])] w λe w'=>∃v,e= .returned v∧(∃(n d:Int) (ok:Bool),v= .tuple #[.int .i64 n,.int .i64 d,.bool ok]∧(ok=true->-2147483648<n∧n<2147483648∧0<d∧d<2147483648∧Rat.divInt n d=qx))∧Ext w w':=by
 have hE:Below w.heap.size w w:=Below.refl _ _
 have hlqx:=oP lmx lmdx ex
 have hdqx:=dS qx
 refine bH (n:=52) (rs:=[.tmp 2,.tmp 3,.tmp 4]) func81 rfl rfl rfl bL ?_
 refine cV λF0 hF0=>?_
 refine wsr ?_
 refine rU (fZ (vv:=(.agg #[(.bool sx),vx,ux])) (cs:=[(.bool sx),vx,ux]) (hF0 0) rfl) ?_
 rintro _ w1 ⟨b2,rfl,hs5,hb4,he3⟩
 have ge_b2:=hE.ge hs5
 replace hE:=hE.nx he3
 refine aS (v:=(iv 0)) rfl (aS (v:=(iv 0)) rfl (aS (v:=(.bool false)) rfl (RL.nil (wsr (rV (aM dT rfl cO rfl) ?_)))))
 refine rV (aM cQ rfl iM rfl) ?_
 have hc6:=hb4.cell (j:=1) (u:=vx) rfl
 refine rV (aY bE jA rfl hc6) ?_
 replace hx:=hx.tr (Sm.ext he3)
 refine cL aKy (aLh hx (by assumption) oS) rfl ?_
 rintro vq9 w7 ⟨hq10,he8⟩
 subst hq10
 replace hE:=hE.nx he8
 refine mV (v:=(.tuple #[(.int .u64 (((if (val x)<18446744073709551616 then (val x) else 0:Nat):Int))),(bd ((val x)<18446744073709551616))])) rfl (rV (aI (v:=(.int .u64 (((if (val x)<18446744073709551616 then (val x) else 0:Nat):Int)))) rfl rfl) (rV (aI (v:=(bd ((val x)<18446744073709551616))) rfl rfl) (aS (v:=(.int .u64 (((if (val x)<18446744073709551616 then (val x) else 0:Nat):Int)))) rfl (aS (v:=(bd ((val x)<18446744073709551616))) rfl (RL.nil ?_)))))
 refine wsr (rV (aM dT rfl iM rfl) ?_)
 replace hb4:=hb4.ext he8
 have hc11:=hb4.cell (j:=2) (u:=ux) rfl
 refine rV (aY bE jA rfl hc11) ?_
 replace hdx:=hdx.tr (Sm.ext (Ext.trans he3 he8))
 refine cL aKy (aLh hdx (by assumption) oS) rfl ?_
 rintro vq14 w12 ⟨hq15,he13⟩
 subst hq15
 replace hE:=hE.nx he13
 refine mV (v:=(.tuple #[(.int .u64 (((if (val dx)<18446744073709551616 then (val dx) else 0:Nat):Int))),(bd ((val dx)<18446744073709551616))])) rfl (rV (aI (v:=(.int .u64 (((if (val dx)<18446744073709551616 then (val dx) else 0:Nat):Int)))) rfl rfl) (rV (aI (v:=(bd ((val dx)<18446744073709551616))) rfl rfl) (aS (v:=(.int .u64 (((if (val dx)<18446744073709551616 then (val dx) else 0:Nat):Int)))) rfl (aS (v:=(bd ((val dx)<18446744073709551616))) rfl (RL.nil ?_)))))
 refine bB ?_
 refine cF ?_
 refine wsr (mV (v:=(bd ((val x)<18446744073709551616))) rfl (rV (wN rfl) (mV (v:=(.bool (!(decide ((val x)<18446744073709551616))))) rfl ?_)))
 rcases Bool.eq_false_or_eq_true (!(decide ((val x)<18446744073709551616))) with hb16|hb16
 ·have hb16p:=hb16
  refine RL.gno rfl rfl (aD hb16) rfl dC ?_
  refine RL.gno rfl rfl (aD hb16) rfl dC ?_
  refine rV (dV (v:=(.bool true)) (aD hb16) rfl) (mV (v:=(.bool true)) rfl ?_)
  refine RL.gno rfl rfl rfl rfl dC ?_
  refine RL.gno rfl rfl rfl rfl dC ?_
  refine rV (dV (v:=(.bool true)) rfl rfl) (mV (v:=(.bool true)) rfl ?_)
  refine RL.gno rfl rfl rfl rfl dC ?_
  refine RL.gno rfl rfl rfl rfl dC ?_
  refine rV (dV (v:=(.bool true)) rfl rfl) (aS (v:=(.bool true)) rfl (RL.nil ?_))
  refine lK rfl ?_
  refine wsr (aS (v:=(iv 0)) rfl (aS (v:=(iv 0)) rfl (aS (v:=(.bool false)) rfl (RL.nil ?_))))
  refine cE ?_
  refine⟨[(iv 0),(iv 0),(.bool false)],⟨rfl,⟨rfl,⟨rfl,trivial⟩⟩⟩,?_⟩
  exact⟨⟨_,_,_,rfl,λh=>by cases h⟩,hE⟩
 have hb16p:=hb16
 have hx64:val x<18446744073709551616:=by simpa using hb16
 refine RL.gval rfl rfl (aD hb16) rfl dC (aG (v:=(bd ((val dx)<18446744073709551616))) rfl) ?_
 refine RL.gval rfl rfl (aD hb16) rfl dC (wN rfl) ?_
 refine rV (eP (v:=(.bool (!(decide ((val dx)<18446744073709551616))))) (aD hb16) rfl) (mV (v:=(.bool (!(decide ((val dx)<18446744073709551616))))) rfl ?_)
 rcases Bool.eq_false_or_eq_true (!(decide ((val dx)<18446744073709551616))) with hb17|hb17
 ·have hb17p:=hb17
  refine RL.gno rfl rfl (aD hb17) rfl dC ?_
  refine RL.gno rfl rfl (aD hb17) rfl dC ?_
  refine rV (dV (v:=(.bool true)) (aD hb17) rfl) (mV (v:=(.bool true)) rfl ?_)
  refine RL.gno rfl rfl rfl rfl dC ?_
  refine RL.gno rfl rfl rfl rfl dC ?_
  refine rV (dV (v:=(.bool true)) rfl rfl) (aS (v:=(.bool true)) rfl (RL.nil ?_))
  refine lK rfl ?_
  refine wsr (aS (v:=(iv 0)) rfl (aS (v:=(iv 0)) rfl (aS (v:=(.bool false)) rfl (RL.nil ?_))))
  refine cE ?_
  refine⟨[(iv 0),(iv 0),(.bool false)],⟨rfl,⟨rfl,⟨rfl,trivial⟩⟩⟩,?_⟩
  exact⟨⟨_,_,_,rfl,λh=>by cases h⟩,hE⟩
 have hb17p:=hb17
 have hd64:val dx<18446744073709551616:=by first|(simpa using hb17)|(have h8:=hb17p;simpa using h8)
 refine RL.gval rfl rfl (aD hb17) rfl dC (aG (v:=(.int .u64 (((if (val x)<18446744073709551616 then (val x) else 0:Nat):Int)))) rfl) ?_
 refine RL.gval rfl rfl (aD hb17) rfl dC (sD (k:=.u64) (a:=((if (val x)<18446744073709551616 then (val x) else 0:Nat):Int)) (b:=2147483648) rfl rfl) ?_
 refine rV (eP (v:=(bd (2147483648<=((if (val x)<18446744073709551616 then (val x) else 0:Nat):Int)))) (aD hb17) rfl) (mV (v:=(bd (2147483648<=((if (val x)<18446744073709551616 then (val x) else 0:Nat):Int)))) rfl ?_)
 rcases bD (2147483648<=((if (val x)<18446744073709551616 then (val x) else 0:Nat):Int)) with ⟨hb18,hb18p⟩|⟨hb18,hb18p⟩
 ·refine RL.gno rfl rfl (aD hb18) rfl dC ?_
  refine RL.gno rfl rfl (aD hb18) rfl dC ?_
  refine rV (dV (v:=(.bool true)) (aD hb18) rfl) (aS (v:=(.bool true)) rfl (RL.nil ?_))
  refine lK rfl ?_
  refine wsr (aS (v:=(iv 0)) rfl (aS (v:=(iv 0)) rfl (aS (v:=(.bool false)) rfl (RL.nil ?_))))
  refine cE ?_
  refine⟨[(iv 0),(iv 0),(.bool false)],⟨rfl,⟨rfl,⟨rfl,trivial⟩⟩⟩,?_⟩
  exact⟨⟨_,_,_,rfl,λh=>by cases h⟩,hE⟩
 have hx31:=hb18p
 rw[if_pos hx64] at hx31
 refine RL.gval rfl rfl (aD hb18) rfl dC (aG (v:=(.int .u64 (((if (val dx)<18446744073709551616 then (val dx) else 0:Nat):Int)))) rfl) ?_
 refine RL.gval rfl rfl (aD hb18) rfl dC (sD (k:=.u64) (a:=((if (val dx)<18446744073709551616 then (val dx) else 0:Nat):Int)) (b:=2147483648) rfl rfl) ?_
 refine rV (eP (v:=(bd (2147483648<=((if (val dx)<18446744073709551616 then (val dx) else 0:Nat):Int)))) (aD hb18) rfl) (aS (v:=(bd (2147483648<=((if (val dx)<18446744073709551616 then (val dx) else 0:Nat):Int)))) rfl (RL.nil ?_))
 refine wcD (p:=2147483648<=((if (val dx)<18446744073709551616 then (val dx) else 0:Nat):Int)) rfl (λhb19 hb19p=>?_) (λhb19 hb19p=>?_)
 ·refine wsr ?_
  refine aS (v:=(iv 0)) rfl (aS (v:=(iv 0)) rfl (aS (v:=(.bool false)) rfl (RL.nil ?_)))
  refine cE ?_
  refine⟨[(iv 0),(iv 0),(.bool false)],⟨rfl,⟨rfl,⟨rfl,trivial⟩⟩⟩,?_⟩
  exact⟨⟨_,_,_,rfl,λh=>by cases h⟩,hE⟩
 have hd31:=hb19p
 rw[if_pos hd64] at hd31
 refine wsr (mV (v:=(.int .u64 (((if (val dx)<18446744073709551616 then (val dx) else 0:Nat):Int)))) rfl (rV (iW (k:=.u64) (a:=((if (val dx)<18446744073709551616 then (val dx) else 0:Nat):Int)) (b:=0) rfl rfl) (aS (v:=(bd (((if (val dx)<18446744073709551616 then (val dx) else 0:Nat):Int)=0))) rfl (RL.nil ?_))))
 refine wcD (p:=((if (val dx)<18446744073709551616 then (val dx) else 0:Nat):Int)=0) rfl (λhb20 hb20p=>?_) (λhb20 hb20p=>?_)
 ·have hz:val dx=0:=by have h8:=hb20p;rw[if_pos hd64] at h8;omega
  refine wsr (aS (v:=(iv 0)) rfl (aS (v:=(iv 1)) rfl (aS (v:=(.bool true)) rfl (RL.nil ?_))))
  refine cE ?_
  refine⟨[(iv 0),(iv 1),(.bool true)],⟨rfl,⟨rfl,⟨rfl,trivial⟩⟩⟩,?_⟩
  exact⟨⟨_,_,_,rfl,λ_=>⟨by decide,by decide,by decide,by decide,by rw[<-ex,hz,uK];exact Rat.zero_divInt _⟩⟩,hE⟩
 have hz:val dx≠0:=by have h8:=hb20p;rw[if_pos hd64] at h8;omega
 refine wsr (rV (aM dT rfl cO rfl) (rV (aM cQ rfl ty4 rfl) ?_))
 replace hb4:=hb4.ext he13
 have hc21:=hb4.cell (j:=0) (u:=(.bool sx)) rfl
 refine rV (aY uT4 ag4 rfl hc21) (aS (v:=(.bool sx)) rfl (RL.nil ?_))
 refine kO (b:=sx) rfl (λhb22=>?_) (λhb22=>?_)
 ·have hb22p:=hb22
  have hsx:sx=true:=hb22
  refine wsr (mV (v:=(.int .u64 (((if (val x)<18446744073709551616 then (val x) else 0:Nat):Int)))) rfl (rV (bR (k:=.i64) (a:=((if (val x)<18446744073709551616 then (val x) else 0:Nat):Int)) (c:=((val x:Nat):Int)) dB uT2 rfl (by rw[if_pos hx64];exact dJ oM)) (rV (aFv (k:=.i64) (a:=((val x:Nat):Int)) (c:=-((val x:Nat):Int)) rfl ((dJ oM).trans oM)) (mV (v:=(.int .u64 (((if (val dx)<18446744073709551616 then (val dx) else 0:Nat):Int)))) rfl (rV (bR (k:=.i64) (a:=((if (val dx)<18446744073709551616 then (val dx) else 0:Nat):Int)) (c:=((val dx:Nat):Int)) dB uT2 rfl (by rw[if_pos hd64];exact dJ oM)) ?_)))))
  refine aS (v:=(iv (-((val x:Nat):Int)))) rfl (aS (v:=(iv (val dx:Nat))) rfl (aS (v:=(.bool true)) rfl (RL.nil ?_)))
  refine cE ?_
  refine⟨[(iv (-((val x:Nat):Int))),(iv (val dx:Nat)),(.bool true)],⟨rfl,⟨rfl,⟨rfl,trivial⟩⟩⟩,?_⟩
  exact⟨⟨_,_,_,rfl,λ_=>⟨by omega,by omega,by omega,by omega,by rw[<-ex,hsx];rfl⟩⟩,hE⟩
 have hb22p:=hb22
 have hsx:sx=false:=hb22
 refine bW ?_
 refine wsr (mV (v:=(.int .u64 (((if (val x)<18446744073709551616 then (val x) else 0:Nat):Int)))) rfl (rV (bR (k:=.i64) (a:=((if (val x)<18446744073709551616 then (val x) else 0:Nat):Int)) (c:=((val x:Nat):Int)) dB uT2 rfl (by rw[if_pos hx64];exact dJ oM)) (mV (v:=(.int .u64 (((if (val dx)<18446744073709551616 then (val dx) else 0:Nat):Int)))) rfl (rV (bR (k:=.i64) (a:=((if (val dx)<18446744073709551616 then (val dx) else 0:Nat):Int)) (c:=((val dx:Nat):Int)) dB uT2 rfl (by rw[if_pos hd64];exact dJ oM)) (aS (v:=(iv (val x:Nat))) rfl ?_)))))
 refine aS (v:=(iv (val dx:Nat))) rfl (aS (v:=(.bool true)) rfl (RL.nil ?_))
 refine cE ?_
 refine⟨[(iv (val x:Nat)),(iv (val dx:Nat)),(.bool true)],⟨rfl,⟨rfl,⟨rfl,trivial⟩⟩⟩,?_⟩
 exact⟨⟨_,_,_,rfl,λ_=>⟨by omega,by omega,by omega,by omega,by rw[<-ex,hsx];rfl⟩⟩,hE⟩
theorem aCy {w:World} {n d:Int} (hn:-9223372036854775807<=n∧n<=9223372036854775807) (hd:0<d∧d<=9223372036854775807):
 Calls Tryz.prog 82 #[(iv n),(iv d)] w λe w'=>∃v,e= .returned v∧(∃vn vd,v= .agg #[.bool (decide ((Rat.divInt n d).num<0)),vn,vd]∧Sg (gN .u32) (λb T=>w.heap.size<=b∧T=131) w' vn (aB (Rat.divInt n d).num.natAbs)∧Sg (gN .u32) (λb T=>w.heap.size<=b∧T=131) w' vd (aB (Rat.divInt n d).den)∧(aB (Rat.divInt n d).num.natAbs).length<=2∧(aB (Rat.divInt n d).den).length<=2)∧Ext w w':=by
 have hE:Below w.heap.size w w:=Below.refl _ _
 refine bH (n:=36) (rs:=[.cell 4 51]) func82 rfl rfl rfl bL ?_
 refine cV λF0 hF0=>?_
 refine wsr ?_
 refine rU (cZ (cs:=[(.bool false),(.slice none 0 0),(.slice none 0 0)]) dF rfl) ?_
 rintro _ w1 ⟨b2,rfl,hs5,hb4,he3⟩
 have ge_b2:=hE.ge hs5
 replace hE:=hE.nx he3
 refine RL.nil (wsr (mV (v:=(iv n)) (hF0 0) (rV (bR (k:=.u64) (a:=n) (c:=n%18446744073709551616) uT2 dB rfl (aAe _)) (aS (v:=(.int .u64 (n%18446744073709551616))) rfl (RL.nil ?_)))))
 refine cV λF6 hF7=>?_
 refine oI (λfl wl=>Off [5,10,11,12,13] F6 fl∧fl 5=(.int .u64 (((n.natAbs:Nat):Int)))∧(Below w.heap.size w wl)∧(Bk wl b2 51 [(.bool false),(.slice none 0 0),(.slice none 0 0)])) ?_ ?_
 ·have hoff8:=Off.refl [5,10,11,12,13] F6
  refine wsr (mV (v:=(iv n)) ((hF7 0).trans (hF0 0)) (rV (eQ (k:=.i64) (a:=n) (b:=0) rfl rfl) (RL.nil ?_)))
  refine wcD (p:=n<0) rfl (λhb9 hb9p=>?_) (λhb9 hb9p=>?_)
  ·refine aV ?_
   refine mV (v:=(.int .u64 (n%18446744073709551616))) (hF7 5) (rV (aFv (k:=.u64) (a:=n%18446744073709551616) (c:=((n.natAbs:Nat):Int)) rfl (by rw[aAe];omega)) (aS (v:=(.int .u64 (((n.natAbs:Nat):Int)))) rfl (RL.nil ?_)))
   refine⟨?_,?_,?_,?_⟩
   ·exact(by repeat (first|exact hoff8|refine Off.st ?_ dC _))
   ·first|rfl|exact aQ oM
   ·exact hE
   exact hb4
  refine bW ?_
  refine⟨?_,?_,?_,?_⟩
  ·exact(by repeat (first|exact hoff8|refine Off.st ?_ dC _))
  ·refine((hF7 5)).trans ?_
   first|rfl|exact aQ oM
  ·exact hE
  exact hb4
 clear hE hb4
 rintro f10 w11 ⟨hoff12,hs13,hE,hb4⟩
 refine wsr (mV (v:=(iv d)) ((hoff12 1 rfl).trans ((hF7 1).trans (hF0 1))) (rV (bR (k:=.u64) (a:=d) (c:=((d.natAbs:Nat):Int)) uT2 dB rfl ((cX oM).trans oM)) (mV hs13 (aS (v:=(.int .u64 (((d.natAbs:Nat):Int)))) rfl (aS (v:=(.int .u64 (((n.natAbs:Nat):Int)))) rfl ?_)))))
 refine RL.nil (bB ?_)
 refine cF ?_
 refine cV λF14 hF15=>?_
 refine fU (σ:=Nat×Nat) (λ(s:Nat×Nat) fl wl=>match s with|(g,r)=>Off (rg 6 2 (rg 17 6 [])) F14 fl∧fl 6=(.int .u64 (g:Int))∧fl 7=(.int .u64 (r:Int))∧(Nat.gcd g r=Nat.gcd n.natAbs d.natAbs)∧(g<18446744073709551616)∧(r<18446744073709551616)∧(Below w.heap.size w wl)∧(Bk wl b2 51 [(.bool false),(.slice none 0 0),(.slice none 0 0)])) (λ(s:Nat×Nat)=>match s with|(g,r)=>r) (d.natAbs,n.natAbs) ?_ ?_
 ·exact⟨Off.refl _ _,(hF15 6).trans (rfl),(hF15 7).trans (rfl),Nat.gcd_comm _ _,by omega,by omega,hE,hb4⟩
 clear hE hb4
 rintro⟨g,r⟩ f16 w17 ⟨hoff18,hs19,hs20,hg,hg64,hr64,hE,hb4⟩
 refine bB (wsr (mV hs20 (rV (mI (k:=.u64) (a:=(r:Int)) (b:=0) rfl rfl) (RL.nil ?_))))
 refine wcD (p:=(r:Int)≠0) rfl (λhb21 hb21p=>?_) (λhb21 hb21p=>?_)
 ·have hr0:r≠0:=by omega
  have hdm:=Nat.mod_lt g (show 0<r by omega)
  refine bW ?_
  refine cF ?_
  refine fI fV λw22 he23=>?_
  replace hE:=hE.nx he23
  refine ra 0 rfl (λ_=>aG (v:=(.int .u64 (r:Int))) hs20) ?_
  refine ra 1 rfl (λ_=>aG (v:=(.int .u64 (g:Int))) hs19) ?_
  refine ra 2 rfl (λ_=>aG (v:=(.int .u64 (r:Int))) hs20) ?_
  refine ra 3 rfl (λ_=>sC (k:=.u64) (a:=(g:Int)) (b:=(r:Int)) (c:=((g%r:Nat):Int)) rfl rfl oM (aIx _ _)) ?_
  refine ra 4 rfl (λ_=>bS (v:=(.int .u64 (r:Int))) rfl) ?_
  refine ra 5 rfl (λ_=>bS (v:=(.int .u64 (((g%r:Nat):Int)))) rfl) ?_
  refine RA.done kR ?_
  replace hb4:=hb4.ext he23
  refine⟨(r,g%r),⟨?_,?_,?_,?_,?_,?_,?_,?_⟩,?_⟩
  ·exact(by repeat (first|exact hoff18|refine Off.st ?_ dC _|refine Off.via hoff12 dC ?_|refine Off.eq hF7 ?_))
  ·first|rfl|exact aQ oM|exact aD (by simp)
  ·first|rfl|exact aQ oM|exact aD (by simp)
  ·rw[<-hg,Nat.gcd_comm,<-Nat.gcd_rec,Nat.gcd_comm]
  ·omega
  ·omega
  ·exact hE
  ·exact hb4
  (try dsimp only)
  omega
 have hr0:r=0:=by omega
 rw[hr0,Nat.gcd_zero_right] at hg
 have hgcd:=hg
 have hgp:0<g:=by rw[hg];exact Nat.gcd_pos_of_pos_right _ oM
 have hq1:=Nat.div_le_self n.natAbs g
 have hq2:=Nat.div_le_self d.natAbs g
 refine fB ?_
 refine bB ?_
 refine fI fV λw24 he25=>?_
 replace hE:=hE.nx he25
 refine ra 0 rfl (λ_=>aG (v:=(iv n)) ((hoff18 0 rfl).trans ((hF15 0).trans ((hoff12 0 rfl).trans ((hF7 0).trans (hF0 0)))))) ?_
 refine ra 1 rfl (λ_=>eQ (k:=.i64) (a:=n) (b:=0) rfl rfl) ?_
 refine ra 2 rfl (λ_=>aG (v:=(.int .u64 (((n.natAbs:Nat):Int)))) ((hoff18 5 rfl).trans ((hF15 5).trans hs13))) ?_
 refine ra 3 rfl (λ_=>aG (v:=(.int .u64 (g:Int))) hs19) ?_
 refine ra 4 rfl (λ_=>pJ (k:=.u64) (a:=((n.natAbs:Nat):Int)) (b:=(g:Int)) (c:=((n.natAbs/g:Nat):Int)) rfl rfl oM (quoN oM)) ?_
 refine ra 7 rfl (λ_=>aG (v:=(iv d)) ((hoff18 1 rfl).trans ((hF15 1).trans ((hoff12 1 rfl).trans ((hF7 1).trans (hF0 1)))))) ?_
 refine ra 8 rfl (λ_=>bR (k:=.u64) (a:=d) (c:=((d.natAbs:Nat):Int)) uT2 dB rfl ((cX oM).trans oM)) ?_
 refine ra 9 rfl (λ_=>aG (v:=(.int .u64 (g:Int))) hs19) ?_
 refine ra 10 rfl (λ_=>pJ (k:=.u64) (a:=((d.natAbs:Nat):Int)) (b:=(g:Int)) (c:=((d.natAbs/g:Nat):Int)) rfl rfl oM (quoN oM)) ?_
 refine RA.all [5] kR rfl ?_
 refine RS.call rfl rfl rfl dC (bO (vl:=[(.int .u64 (((n.natAbs/g:Nat):Int)))]) kL rfl) (kM oM) ?_ RS.nil
 rintro vr28 w26 ⟨hr29,he27⟩
 refine rm he27 ?_
 replace hr29:=hr29.fr hE
 replace hE:=hE.nx he27
 have hlv30:=kK (n:=n.natAbs/g) oM
 refine ra 6 rfl (λ_=>eR (vl:=[(0,(bd (n<0))),(1,vr28)]) (cs:=[(bd (n<0)),vr28]) cQ cO rfl (aAn cQ) (by obtain⟨_,_,e0_,-,-⟩:=hr29.len;simp only[e0_];rfl)) ?_
 refine RA.all [11] kR rfl ?_
 refine RS.call rfl rfl rfl dC (bO (vl:=[(.int .u64 (((d.natAbs/g:Nat):Int)))]) kL rfl) (kM oM) ?_ RS.nil
 rintro vr33 w31 ⟨hr34,he32⟩
 refine rm he32 ?_
 replace hr34:=hr34.fr hE
 replace hE:=hE.nx he32
 have hlv35:=kK (n:=d.natAbs/g) oM
 refine ra 12 rfl (λ_=>eR (vl:=[(0,(.agg #[(bd (n<0)),vr28])),(1,vr33)]) (cs:=[(bd (n<0)),vr28,vr33]) dT dF rfl (aIv dT) (by obtain⟨_,_,e0_,-,-⟩:=hr34.len;simp only[e0_];rfl)) ?_
 refine RA.all [13] kR rfl ?_
 have hm40:=Ext.trans he25 (Ext.trans he27 he32)
 replace hb4:=hb4.ext hm40
 refine RS.runs rfl rfl rfl (bQ (vv:=(.agg #[(bd (n<0)),vr28,vr33])) (cs:=[(bd (n<0)),vr28,vr33]) (o:=0) dF ((hoff18 4 rfl).trans ((hF15 4).trans ((hoff12 4 rfl).trans (hF7 4)))) rfl rfl rfl (aF rfl (aF hr29.one (aF hr34.one bU))) hb4 bL) ?_ RS.nil
 rintro w36 ⟨hn37,hx38,hz39⟩
 refine⟨.inr (.inl kR),?_⟩
 replace hE:=hE.nb hx38 ge_b2
 have nb_hx38:=(Nb.of hb4 (aH rfl (aH rfl (aH rfl cG))))
 replace hb4:Bk w36 b2 51 [(bd (n<0)),vr28,vr33]:=hn37
 refine RA.done kR ?_
 refine cE ?_
 refine⟨[(.agg #[(bd (n<0)),vr28,vr33])],⟨⟨_,_,[(bd (n<0)),vr28,vr33],((hoff18 4 rfl).trans ((hF15 4).trans ((hoff12 4 rfl).trans (hF7 4)))),⟨_,dT⟩,hb4.cells rfl,.inl ⟨fH,⟨_,_,dF⟩,rfl⟩⟩,trivial⟩,?_⟩
 have hlaw:=nV (z:=n) (d:=d.natAbs) oM
 rw[<-hgcd] at hlaw
 rw[show Rat.divInt n d=Rat.divInt n ((d.natAbs:Nat):Int) by rw[show((d.natAbs:Nat):Int)=d by omega]]
 replace hr29:=(hr29.tr (Sm.ext he32)).apn hx38 nb_hx38
 replace hr34:=hr34.apn hx38 nb_hx38
 exact⟨⟨_,_,pT (decide_eq_decide.2 hlaw.2.2.symm),by rw[hlaw.1];exact hr29,by rw[hlaw.2.1];exact hr34,by rw[hlaw.1];omega,by rw[hlaw.2.1];omega⟩,hE⟩
end Go.Proofs.YtlhdigjbokkbiaaGreat.W
