/- For every input the law UpdateEqualsFresh returns true, and what came in reads as it did. Part 2 of 7: Nd Ne Nl Mlng Vgm Vgn Nf Ng Mleh Mwin Nh Ni Nj Ia Mquo Rg Rh Qa Qb. -/
import Derived.Shelf.Small.Bits
import Derived.Deep.SlicePairs
import Derived.Test.YtlhdigjbokkbiaaGreatE1
set_option maxHeartbeats 4000000
set_option linter.unusedVariables false
set_option linter.unusedSimpArgs false
namespace Go.Proofs.YtlhdigjbokkbiaaGreat.W
open Go.Vg Go.RowKit _root_.Go.Proofs.Tryz
open Go.Vm
theorem cAo {x s:Nat} (hs:s<=31) (hx:x<4294967296):IntKind.u64.wrap ((x:Int)*2^(min (s:Int).toNat IntKind.u64.bits))=((x*2^s:Nat):Int):=by
 rw[bP,show min s IntKind.u64.bits=s from fI (bA hs dC)]
 have h:=aGc (c:=0) hs (jC dC) hx
 rw[show((x:Int)*2^s)=((x*2^s:Nat):Int) by simp]
 generalize x*2^s=p at*
 exact iV oM
theorem orS {c x s:Nat} (hc:c<2^s) (hb:c+x*2^s<18446744073709551616):IntKind.u64.wrap ((BitVec.ofInt IntKind.u64.bits (c:Int)|||BitVec.ofInt IntKind.u64.bits ((x*2^s:Nat):Int)).toNat:Int)=((c+x*2^s:Nat):Int):=by
 show IntKind.u64.wrap ((BitVec.ofInt 64 (c:Int)|||BitVec.ofInt 64 ((x*2^s:Nat):Int)).toNat:Int)=_
 have h1:c<2^64:=by omega
 have h2:x*2^s<2^64:=by omega
 rw[gK,gK,sT,iF,iF,cW h1,cW h2,bMx hc]
 generalize c+x*2^s=p at*
 exact iV oM
theorem cAp {x s:Nat} (hs:s<=31):(x:Int).fdiv (2^(min (s:Int).toNat IntKind.u64.bits))=((x/2^s:Nat):Int):=by
 rw[bP,show min s IntKind.u64.bits=s from fI (bA hs dC),iS _ (tM (Int.pow_pos dC))]
 simp
theorem orH {x y:Nat} (hx:x<4294967296) (hy:y<4294967296):IntKind.u64.wrap ((BitVec.ofInt IntKind.u64.bits (x:Int)|||BitVec.ofInt IntKind.u64.bits ((y*4294967296:Nat):Int)).toNat:Int)=((x+4294967296*y:Nat):Int):=by
 have h:=or32 hy hx
 rw[show(x+4294967296*y)=y*4294967296+x by omega,<-h]
 congr 2
 exact congrArg BitVec.toNat (zH _ _)
theorem bLa {s:Nat} (hs:s<=31):IntKind.i64.wrap ((s:Int).tdiv 32)=0:=by
 rw[quo32 oM,jM oM];rfl
theorem bTs {s:Nat} (hs:s<=31):(s:Int).tmod 32=(s:Int):=by
 rw[rem32,cW oM]
theorem aIl {w:World} {Dx:Nat->TypeId->Prop} {vx:Value} {x:List Nat} (hx0:Sg (gN .u32) Dx w vx x) (lmx:Lm x) (lnx:x.length<=1099511627776) {sh:Nat} (hs:sh<=31):
 Calls Tryz.prog 174 #[vx,(iv sh)] w λe w'=>∃v,e= .returned v/\(∃b L,v= .slice (some ⟨b,0,none⟩) (x.length+1) (x.length+1)/\w.heap.size<=b/\Ar (gN .u32) w' b 131 0 L (x.length+1)/\Lm L/\val L=val x*2^sh)/\Ext w w':=by
 have hE:Below w.heap.size w w:=Below.refl _ _
 have hx:=hx0.old
 clear hx0
 have hlvx:=eO lmx
 refine eE (n:=41) (rs:=[.tmp 4]) func174 rfl rfl rfl bL ?_
 refine iU λF0 hF0=>?_
 refine wsr (aS (v:=(.slice none (0) (0))) rfl (aE (wsr (mV (v:=vx) (hF0 0) ?_))))
 obtain⟨A1,c2,hv3,hc4,hc5⟩:=hx.len
 refine rV (gX eC hv3) (rV (kE (k:=.i64) (a:=((x.length:Nat):Int)) (b:=1) (c:=((x.length:Nat):Int)+1) rfl rfl (jS oM)) ?_)
 have hn11:(((x.length:Nat):Int)+1:Int)=((x.length+1:Nat):Int):=by omega
 refine rU (uS (n:=x.length+1) eC eR rfl (cQ hn11) (cQ hn11) oM oM) ?_
 rintro _ w6 ⟨b7,rfl,hs10,hb9,he8⟩
 have ge_b7:=hE.ge hs10
 replace hE:=hE.nx he8
 replace hb9:=Ar.made (g:=(gN .u32)) (z:=(0:Nat)) hb9 rfl
 have hb9l:=hb9.lt
 refine aS (v:=(.slice (some ⟨b7,0,none⟩) (x.length+1) (x.length+1))) rfl (aE (wsr (aS (v:=(.int .u64 0)) rfl (aE (dV (wsr (mV (v:=vx) (hF0 0) (rV (gX eC hv3) (mV (v:=(iv 0)) rfl (aE ?_))))))))))
 refine gC ?_
 refine iU λF12 hF13=>?_
 refine oP (σ:=Nat×Nat×List Nat) (λ(s:Nat×Nat×List Nat) fl wl=>match s with|(k,c,P)=>Off (rg 6 3 (rg 15 19 [])) F12 fl/\fl 15=(iv k)/\fl 6=(.int .u64 (c:Int))/\(k<=x.length)/\(P.length=k)/\(Lm P)/\(c<2^sh)/\(val P+4294967296^k*c=val (x.take k)*2^sh)/\(Ar (gN .u32) wl b7 131 0 (nC P (x.length+1)) (x.length+1))/\(Sg (gN .u32) (λb T=>Dx b T/\b<w.heap.size) wl vx x)/\(Below w.heap.size w wl)) (λ(s:Nat×Nat×List Nat)=>match s with|(k,c,P)=>x.length-k) (0,0,[]) ?_ ?_
 ·replace hx:=hx.tr (aH he8)
  exact⟨Off.refl _ _,(hF13 15).trans (rfl),(hF13 6).trans (rfl),aF _,rfl,Lm.nil,jC dC,(by simp[val]),(by rw[tR];exact hb9),hx,hE⟩
 clear hx hE hb9
 rintro⟨k,c,P⟩ f14 w15 ⟨G16,hs17,hs18,hk,hP,hLm,hc,hv,hb9,hx,hE⟩
 refine wsr (rV (mP (k:=.i64) (a:=(k:Int)) (b:=((x.length:Nat):Int)) hs17 ((G16 14 rfl).trans (hF13 14))) (aE (dV ?_)))
 refine wcD (p:=(k:Int)<((x.length:Nat):Int)) rfl (λhb19 hb19p=>?_) (λhb19 hb19p=>?_)
 ·refine fL ?_
  refine dV ?_
  refine gC ?_
  refine dV ?_
  have hkl:k<x.length:=by omega
  have hxk:=lmx.at hkl
  have hcr:=aGc hs hc hxk
  refine cV (mV hs17 ?_)
  obtain⟨b20,o21,c22,hv23,hc24⟩:=hx.ix (i:=(k:Int)) (k) oM oM
  refine rV (cA (i:=(k:Int)) eC eR ((((G16 13 rfl).trans (hF13 13))).trans hv23) hs17 oM oM) (rV (dJ (v:=(.int .u32 (((x.getD (k) default:Nat):Int)))) eS kH rfl hc24) (aS (v:=(iv k)) rfl (aS (v:=(.int .u32 (((x.getD (k) default:Nat):Int)))) rfl (aE (wsr (mV hs18 (mV (v:=(.int .u32 (((x.getD (k) default:Nat):Int)))) rfl (rV (fE (k:=.u64) (a:=((x.getD (k) default:Nat):Int)) (c:=((x.getD (k) default:Nat):Int)) eS jE rfl (iV oM)) (mV (v:=(iv sh)) ((G16 1 rfl).trans ((hF13 1).trans (hF0 1))) (rV (aBf (k:=.u64) (a:=((x.getD (k) default:Nat):Int)) (b:=(sh:Int)) (c:=((x.getD k default*2^sh:Nat):Int)) rfl rfl oM (cAo hs hxk)) (rV (aJd (k:=.u64) (a:=(c:Int)) (b:=((x.getD k default*2^sh:Nat):Int)) (c:=(((c+x.getD k default*2^sh):Nat):Int)) rfl rfl (orS hc (by have:=hcr.1;omega))) (aS (v:=(.int .u64 ((((c+x.getD k default*2^sh):Nat):Int)))) rfl (aE (wsr (mV (v:=(.slice (some ⟨b7,0,none⟩) (x.length+1) (x.length+1))) ((G16 5 rfl).trans (hF13 5)) (mV (v:=(iv k)) rfl (mV (v:=(.int .u64 ((((c+x.getD k default*2^sh):Nat):Int)))) rfl (rV (fE (k:=.u32) (a:=(((c+x.getD k default*2^sh):Nat):Int)) (c:=(((c+x.getD k default*2^sh)%4294967296:Nat):Int)) jE eS rfl (cu32 _)) (rV (cA (i:=(k:Int)) eC eR rfl rfl oM oM) ?_)))))))))))))))))))
  refine fC rfl rfl (aAg (g:=(gN .u32)) (vv:=(.int .u32 ((((c+x.getD k default*2^sh)%4294967296:Nat):Int)))) (u:=(c+x.getD k default*2^sh)%4294967296) (i:=(k:Int)) eR rfl rfl rfl rfl rfl hb9 (k) oM oM) ?_
  rintro w25 ⟨ha26,hx27⟩
  replace hE:=hE.nb hx27 ge_b7
  replace hb9:=ha26
  refine aE (cV (mV (v:=(.int .u64 ((((c+x.getD k default*2^sh):Nat):Int)))) rfl (rV (tU (k:=.u64) (a:=(((c+x.getD k default*2^sh):Nat):Int)) (b:=32) (c:=(((c+x.getD k default*2^sh)/4294967296:Nat):Int)) rfl rfl dC (shr32 _)) (aS (v:=(.int .u64 ((((c+x.getD k default*2^sh)/4294967296:Nat):Int)))) rfl (aE (cV (rV (kE (k:=.i64) (a:=(k:Int)) (b:=1) (c:=(k:Int)+1) hs17 rfl (jS oM)) (mV (v:=(iv ((k:Int)+1))) rfl (aE ?_)))))))))
  replace hx:=hx.tr (Sm.exc hx27 (λ_ _ _ _ hd=>absurd hd.2 (bS ge_b7)))
  refine⟨(k+1,(c+x.getD k default*2^sh)/4294967296,P++[(c+x.getD k default*2^sh)%4294967296]),⟨?_,?_,?_,?_,?_,?_,?_,?_,?_,?_,?_⟩,?_⟩
  ·exact(by repeat (first|exact G16|refine Off.st ?_ dC _))
  ·first|rfl|exact cQ oM|exact aW (by simp)
  ·first|rfl|exact cQ oM|exact aW (by simp)
  ·omega
  ·rw[aP,hP];rfl
  ·exact hLm.snoc (dM _ dC)
  ·exact hcr.2.1
  ·rw[eM hkl];exact bHb hP hv
  ·rw[qJ hP oM] at hb9;exact hb9
  ·exact hx
  ·exact hE
  (try dsimp only)
  omega
 refine nG ?_
 refine dV ?_
 have hcs:=aGc (x:=0) hs hc dC
 refine cV (mV (v:=(.slice (some ⟨b7,0,none⟩) (x.length+1) (x.length+1))) ((G16 5 rfl).trans (hF13 5)) (mV (v:=vx) ((G16 0 rfl).trans ((hF13 0).trans (hF0 0))) (rV (gX eC hv3) (mV hs18 (rV (fE (k:=.u32) (a:=(c:Int)) (c:=((c%4294967296:Nat):Int)) jE eS rfl (cu32 _)) (rV (cA (i:=((x.length:Nat):Int)) eC eR rfl rfl oM oM) ?_))))))
 refine fC rfl rfl (aAg (g:=(gN .u32)) (vv:=(.int .u32 (((c%4294967296:Nat):Int)))) (u:=c%4294967296) (i:=((x.length:Nat):Int)) eR rfl rfl rfl rfl rfl hb9 (x.length) oM oM) ?_
 rintro w28 ⟨ha29,hx30⟩
 replace hE:=hE.nb hx30 ge_b7
 replace hb9:=ha29
 refine aE (dV ?_)
 have hka:k=x.length:=by omega
 rw[qJ oM oM,rN (by simp;omega)] at hb9
 have hfin:val (P++[c%4294967296])=val x*2^sh:=by
  rw[mR,hP,cW oM,hv,hka,bU (aI _)]
 refine cV (mV (v:=(.slice (some ⟨b7,0,none⟩) (x.length+1) (x.length+1))) ((G16 5 rfl).trans (hF13 5)) (aS (v:=(.slice (some ⟨b7,0,none⟩) (x.length+1) (x.length+1))) rfl (aE ?_)))
 refine gH ?_
 refine⟨[(.slice (some ⟨b7,0,none⟩) (x.length+1) (x.length+1))],⟨rfl,trivial⟩,?_⟩
 exact⟨⟨_,_,rfl,ge_b7,hb9,hLm.snoc (dM _ dC),hfin⟩,hE⟩
theorem bTt {w:World} {Dx:Nat->TypeId->Prop} {vx:Value} {x:List Nat} (hx0:Sg (gN .u32) Dx w vx x) (lmx:Lm x) (lnx:x.length<=1099511627776) {sh:Nat} (hs:sh<=31):
 Calls Tryz.prog 176 #[vx,(iv sh)] w λe w'=>∃v,e= .returned v/\(∃vr,v= .tuple #[vr,.bool true]/\Sg (gN .u32) (λb T=>w.heap.size<=b/\T=131) w' vr (aJ (val x/2^sh)))/\Ext w w':=by
 have hE:Below w.heap.size w w:=Below.refl _ _
 have hx:=hx0.old
 clear hx0
 have hlvx:=eO lmx
 refine eE (n:=62) (rs:=[.tmp 4,.tmp 5]) func176 rfl rfl rfl bL ?_
 refine iU λF0 hF0=>?_
 refine wsr (aS (v:=(.slice none (0) (0))) rfl (aS (v:=(.bool false)) rfl (aE (dV (wsr (mV (v:=(iv sh)) (hF0 1) (rV (mP (k:=.i64) (a:=(sh:Int)) (b:=0) rfl rfl) (aE ?_))))))))
 refine wcD (p:=(sh:Int)<0) rfl (λhb1 hb1p=>?_) (λhb1 hb1p=>?_)
 ·exact absurd hb1p oM
 refine fL ?_
 refine wsr (mV (v:=vx) (hF0 0) ?_)
 refine cL mK (pL hx (by assumption) (by first|omega|(simp;done)|(simp;omega))) rfl ?_
 rintro vr3 _ ⟨hr4,rfl⟩
 have hlv5:=eO (x:=x) (by assumption)
 refine aS (v:=vr3) rfl (aE (dV (wsr (mV (v:=(iv sh)) (hF0 1) (rV (aBe (k:=.i64) (a:=(sh:Int)) (b:=32) (c:=0) rfl rfl dC (bLa hs)) (mV (v:=vr3) rfl ?_))))))
 obtain⟨A6,c7,hv8,hc9,hc10⟩:=hr4.len
 refine rV (gX eC hv8) (rV (aEa (k:=.i64) (a:=0) (b:=(((aJ (val x)).length:Nat):Int)) rfl rfl) (aE ?_))
 refine wcD (p:=(((aJ (val x)).length:Nat):Int)<=0) rfl (λhb11 hb11p=>?_) (λhb11 hb11p=>?_)
 ·have hx0:val x=0:=kZ.1 (by unfold len;omega)
  refine wsr (aS (v:=(.slice none (0) (0))) rfl (aS (v:=(.bool true)) rfl (aE ?_)))
  refine gH ?_
  refine⟨[(.slice none (0) (0)),(.bool true)],⟨rfl,⟨rfl,trivial⟩⟩,?_⟩
  exact⟨⟨_,rfl,by rw[hx0,Nat.zero_div];exact Sg.nil⟩,hE⟩
 refine fL ?_
 refine wsr (mV (v:=vr3) rfl (mV (v:=(iv sh)) (hF0 1) (rV (aBe (k:=.i64) (a:=(sh:Int)) (b:=32) (c:=0) rfl rfl dC (bLa hs)) ?_)))
 have r12:=hr4.drop 0 (aF _) hv8
 rw[mF] at r12
 refine rV (cAl (l:=0) (kk:=0) eC eR hv8 rfl rfl (aF _)) (aS (v:=(.slice (if c7=0 then (A6:Option Addr) else (A6:Option Addr).map (·.add (0*1))) ((aJ (val x)).length-0) (c7-0))) rfl (aE (wsr (mV (v:=(iv sh)) (hF0 1) (rV (aDz (k:=.i64) (a:=(sh:Int)) (b:=32) (c:=(sh:Int)) rfl rfl dC (bTs hs)) (aS (v:=(iv sh)) rfl (aE (wsr (mV (v:=(.slice (if c7=0 then (A6:Option Addr) else (A6:Option Addr).map (·.add (0*1))) ((aJ (val x)).length-0) (c7-0))) rfl ?_)))))))))
 obtain⟨A13,c14,hv15,hc16,hc17⟩:=r12.len
 refine rV (gX eC hv15) ?_
 have hn23:((((aJ (val x)).length:Nat):Int):Int)=(((aJ (val x)).length:Nat):Int):=by omega
 refine rU (uS (n:=(aJ (val x)).length) eC eR rfl (cQ hn23) (cQ hn23) oM oM) ?_
 rintro _ w18 ⟨b19,rfl,hs22,hb21,he20⟩
 have ge_b19:=hE.ge hs22
 replace hE:=hE.nx he20
 replace hb21:=Ar.made (g:=(gN .u32)) (z:=(0:Nat)) hb21 rfl
 have hb21l:=hb21.lt
 refine aS (v:=(.slice (some ⟨b19,0,none⟩) ((aJ (val x)).length) ((aJ (val x)).length))) rfl (aE (dV (wsr (mV (v:=(.slice (if c7=0 then (A6:Option Addr) else (A6:Option Addr).map (·.add (0*1))) ((aJ (val x)).length-0) (c7-0))) rfl (rV (gX eC hv15) (mV (v:=(iv 0)) rfl (aE ?_)))))))
 refine gC ?_
 refine iU λF24 hF25=>?_
 refine oP (σ:=Nat×List Nat) (λ(s:Nat×List Nat) fl wl=>match s with|(k,P)=>Off (rg 8 3 (rg 31 29 [])) F24 fl/\fl 31=(iv k)/\(k<=(aJ (val x)).length)/\(P.length=k)/\(Lm P)/\(val P=val x/2^sh%4294967296^k)/\(Ar (gN .u32) wl b19 131 0 (nC P (aJ (val x)).length) ((aJ (val x)).length))/\(Sg (gN .u32) (λb T=>Dx b T/\b<w.heap.size) wl vx x)/\(Below w.heap.size w wl)/\(Sg (gN .u32) (λb T=>Dx b T/\b<w.heap.size) wl vr3 (aJ (val x)))/\(Sg (gN .u32) (λb T=>Dx b T/\b<w.heap.size) wl (.slice (if c7=0 then (A6:Option Addr) else (A6:Option Addr).map (·.add (0*1))) ((aJ (val x)).length-0) (c7-0)) (aJ (val x)))) (λ(s:Nat×List Nat)=>match s with|(k,P)=>(aJ (val x)).length-k) (0,[]) ?_ ?_
 ·replace hx:=hx.tr (aH he20)
  replace hr4:=hr4.tr (aH he20)
  replace r12:=r12.tr (aH he20)
  exact⟨Off.refl _ _,(hF25 31).trans (rfl),aF _,rfl,Lm.nil,(by simp[val,Nat.mod_one]),(by rw[tR];exact hb21),hx,hE,hr4,r12⟩
 clear hx hE hr4 r12 hb21
 rintro⟨k,P⟩ f26 w27 ⟨G28,hs29,hk,hP,hLm,hv,hb21,hx,hE,hr4,r12⟩
 refine wsr (rV (mP (k:=.i64) (a:=(k:Int)) (b:=(((aJ (val x)).length:Nat):Int)) hs29 ((G28 30 rfl).trans (hF25 30))) (aE (dV ?_)))
 refine wcD (p:=(k:Int)<(((aJ (val x)).length:Nat):Int)) rfl (λhb30 hb30p=>?_) (λhb30 hb30p=>?_)
 ·refine fL ?_
  refine dV ?_
  refine gC ?_
  refine dV ?_
  have hkl:k<(aJ (val x)).length:=by omega
  have hxk:=(cT (val x)).at hkl
  have hd0:=vO (cT (val x)) k
  have hd1:=vO (cT (val x)) (k+1)
  refine cV (mV hs29 ?_)
  obtain⟨b31,o32,c33,hv34,hc35⟩:=r12.ix (i:=(k:Int)) (k) oM oM
  refine rV (cA (i:=(k:Int)) eC eR ((((G28 29 rfl).trans (hF25 29))).trans hv34) hs29 oM oM) (rV (dJ (v:=(.int .u32 ((((aJ (val x)).getD (k) default:Nat):Int)))) eS kH rfl hc35) (aS (v:=(iv k)) rfl (aS (v:=(.int .u32 ((((aJ (val x)).getD (k) default:Nat):Int)))) rfl (aE (wsr (mV (v:=(.int .u32 ((((aJ (val x)).getD (k) default:Nat):Int)))) rfl (rV (fE (k:=.u64) (a:=(((aJ (val x)).getD (k) default:Nat):Int)) (c:=(((aJ (val x)).getD (k) default:Nat):Int)) eS jE rfl (iV oM)) (aS (v:=(.int .u64 ((((aJ (val x)).getD (k) default:Nat):Int)))) rfl (aE ?_)))))))))
  refine iU λF36 hF37=>?_
  refine vN (λfl wl=>Off (10::(rg 38 14 [])) F36 fl/\fl 10=(.int .u64 ((((dig (aJ (val x)) k+4294967296*dig (aJ (val x)) (k+1)):Nat):Int)))/\(Sg (gN .u32) (λb T=>Dx b T/\b<w.heap.size) wl vx x)/\(Below w.heap.size w wl)/\(Sg (gN .u32) (λb T=>Dx b T/\b<w.heap.size) wl vr3 (aJ (val x)))/\(Sg (gN .u32) (λb T=>Dx b T/\b<w.heap.size) wl (.slice (if c7=0 then (A6:Option Addr) else (A6:Option Addr).map (·.add (0*1))) ((aJ (val x)).length-0) (c7-0)) (aJ (val x)))/\(Ar (gN .u32) wl b19 131 0 (nC P (aJ (val x)).length) ((aJ (val x)).length))) ?_ ?_
  ·have G38:=Off.refl (10::(rg 38 14 [])) F36
   refine wsr (mV (v:=(iv k)) (hF37 8) (rV (kE (k:=.i64) (a:=(k:Int)) (b:=1) (c:=(k:Int)+1) rfl rfl (jS oM)) (mV (v:=(.slice (if c7=0 then (A6:Option Addr) else (A6:Option Addr).map (·.add (0*1))) ((aJ (val x)).length-0) (c7-0))) ((hF37 0).trans ((G28 0 rfl).trans (hF25 0))) (rV (gX eC hv15) (rV (mP (k:=.i64) (a:=(k:Int)+1) (b:=(((aJ (val x)).length:Nat):Int)) rfl rfl) (aE ?_))))))
   refine wcD (p:=((k:Int)+1)<(((aJ (val x)).length:Nat):Int)) rfl (λhb39 hb39p=>?_) (λhb39 hb39p=>?_)
   ·have hxk1:=(cT (val x)).at (k:=k+1) oM
    refine cV (mV (v:=(.int .u64 ((((aJ (val x)).getD (k) default:Nat):Int)))) (hF37 10) (mV (v:=(.slice (if c7=0 then (A6:Option Addr) else (A6:Option Addr).map (·.add (0*1))) ((aJ (val x)).length-0) (c7-0))) ((hF37 0).trans ((G28 0 rfl).trans (hF25 0))) (mV (v:=(iv k)) (hF37 8) (rV (kE (k:=.i64) (a:=(k:Int)) (b:=1) (c:=(k:Int)+1) rfl rfl (jS oM)) ?_))))
    obtain⟨b40,o41,c42,hv43,hc44⟩:=r12.ix (i:=(k:Int)+1) (k+1) oM oM
    refine rV (cA (i:=(k:Int)+1) eC eR hv43 rfl oM oM) (rV (dJ (v:=(.int .u32 ((((aJ (val x)).getD (k+1) default:Nat):Int)))) eS kH rfl hc44) (rV (fE (k:=.u64) (a:=(((aJ (val x)).getD (k+1) default:Nat):Int)) (c:=(((aJ (val x)).getD (k+1) default:Nat):Int)) eS jE rfl (iV oM)) (rV (aBf (k:=.u64) (a:=(((aJ (val x)).getD (k+1) default:Nat):Int)) (b:=32) (c:=(((aJ (val x)).getD (k+1) default*4294967296:Nat):Int)) rfl rfl dC (shl32 hxk1)) (rV (aJd (k:=.u64) (a:=(((aJ (val x)).getD (k) default:Nat):Int)) (b:=(((aJ (val x)).getD (k+1) default*4294967296:Nat):Int)) (c:=(((aJ (val x)).getD k default+4294967296*(aJ (val x)).getD (k+1) default:Nat):Int)) rfl rfl (orH hxk hxk1)) (aS (v:=(.int .u64 ((((aJ (val x)).getD k default+4294967296*(aJ (val x)).getD (k+1) default:Nat):Int)))) rfl (aE ?_))))))
    refine⟨?_,?_,?_,?_,?_,?_,?_⟩
    ·exact(by repeat (first|exact G38|refine Off.st ?_ dC _|refine Off.via G28 dC ?_|refine Off.eq hF25 ?_))
    ·first|exact cQ (by rw[qQ (xs:=aJ (val x)) (k:=k) oM,qQ (xs:=aJ (val x)) (k:=k+1) oM])|exact cQ (by rw[qQ (xs:=aJ (val x)) (k:=k) oM,wE (xs:=aJ (val x)) (k:=k+1) oM];omega)
    ·exact hx
    ·exact hE
    ·exact hr4
    ·exact r12
    exact hb21
   refine fL ?_
   refine⟨?_,?_,?_,?_,?_,?_,?_⟩
   ·exact(by repeat (first|exact G38|refine Off.st ?_ dC _|refine Off.via G28 dC ?_|refine Off.eq hF25 ?_))
   ·refine((hF37 10)).trans ?_
    first|exact cQ (by rw[qQ (xs:=aJ (val x)) (k:=k) oM,qQ (xs:=aJ (val x)) (k:=k+1) oM])|exact cQ (by rw[qQ (xs:=aJ (val x)) (k:=k) oM,wE (xs:=aJ (val x)) (k:=k+1) oM];omega)
   ·exact hx
   ·exact hE
   ·exact hr4
   ·exact r12
   exact hb21
  clear hx hE hr4 r12 hb21
  rintro f45 w46 ⟨G47,hs48,hx,hE,hr4,r12,hb21⟩
  refine cV (mV (v:=(.slice (some ⟨b19,0,none⟩) ((aJ (val x)).length) ((aJ (val x)).length))) ((G47 7 rfl).trans ((hF37 7).trans ((G28 7 rfl).trans (hF25 7)))) (mV (v:=(iv k)) ((G47 8 rfl).trans (hF37 8)) (mV (v:=(.int .u64 ((((dig (aJ (val x)) k+4294967296*dig (aJ (val x)) (k+1)):Nat):Int)))) hs48 (mV (v:=(iv sh)) ((G47 6 rfl).trans ((hF37 6).trans ((G28 6 rfl).trans (hF25 6)))) (rV (tU (k:=.u64) (a:=(((dig (aJ (val x)) k+4294967296*dig (aJ (val x)) (k+1)):Nat):Int)) (b:=(sh:Int)) (c:=(((dig (aJ (val x)) k+4294967296*dig (aJ (val x)) (k+1))/2^sh:Nat):Int)) rfl rfl oM (cAp hs)) (rV (fE (k:=.u32) (a:=(((dig (aJ (val x)) k+4294967296*dig (aJ (val x)) (k+1))/2^sh:Nat):Int)) (c:=((((dig (aJ (val x)) k+4294967296*dig (aJ (val x)) (k+1))/2^sh)%4294967296:Nat):Int)) jE eS rfl (cu32 _)) (rV (cA (i:=(k:Int)) eC eR rfl rfl oM oM) ?_)))))))
  refine fC rfl rfl (aAg (g:=(gN .u32)) (vv:=(.int .u32 (((((dig (aJ (val x)) k+4294967296*dig (aJ (val x)) (k+1))/2^sh)%4294967296:Nat):Int)))) (u:=((dig (aJ (val x)) k+4294967296*dig (aJ (val x)) (k+1))/2^sh)%4294967296) (i:=(k:Int)) eR rfl rfl rfl rfl rfl hb21 (k) oM oM) ?_
  rintro w49 ⟨ha50,hx51⟩
  replace hE:=hE.nb hx51 ge_b19
  replace hb21:=ha50
  refine aE (cV (rV (kE (k:=.i64) (a:=(k:Int)) (b:=1) (c:=(k:Int)+1) ((G47 31 rfl).trans ((hF37 31).trans hs29)) rfl (jS oM)) (mV (v:=(iv ((k:Int)+1))) rfl (aE ?_))))
  replace hx:=hx.tr (Sm.exc hx51 (λ_ _ _ _ hd=>absurd hd.2 (bS ge_b19)))
  replace hr4:=hr4.tr (Sm.exc hx51 (λ_ _ _ _ hd=>absurd hd.2 (bS ge_b19)))
  replace r12:=r12.tr (Sm.exc hx51 (λ_ _ _ _ hd=>absurd hd.2 (bS ge_b19)))
  refine⟨(k+1,P++[(dig (aJ (val x)) k+4294967296*dig (aJ (val x)) (k+1))/2^sh%4294967296]),⟨?_,?_,?_,?_,?_,?_,?_,?_,?_,?_,?_⟩,?_⟩
  ·exact(by repeat (first|exact G28|refine Off.st ?_ dC _|refine Off.via G47 dC ?_|refine Off.eq hF37 ?_))
  ·first|rfl|exact cQ oM|exact aW (by simp)
  ·omega
  ·rw[aP,hP];rfl
  ·exact hLm.snoc (dM _ dC)
  ·rw[aVj (cT (val x)) hs,cX];exact aXu hP hv
  ·rw[qJ hP oM] at hb21;exact hb21
  ·exact hx
  ·exact hE
  ·exact hr4
  ·exact r12
  (try dsimp only)
  omega
 refine nG ?_
 refine dV ?_
 have hka:k=(aJ (val x)).length:=by omega
 rw[rN oM] at hb21
 have hfin:val P=val x/2^sh:=by
  rw[hv,cW]
  refine gM (iT _ _) ?_
  have h9:=mJ (cT (val x))
  rw[cX,<-hka] at h9
  exact h9
 refine cV (mV (v:=(.slice (some ⟨b19,0,none⟩) ((aJ (val x)).length) ((aJ (val x)).length))) ((G28 7 rfl).trans (hF25 7)) ?_)
 refine cL mK (pL (hb21.sc (D:=(λb T=>w.heap.size<=b/\T=131)) (aI _) oM ⟨ge_b19,rfl⟩) hLm (by first|omega|(simp;done)|(simp;omega))) rfl ?_
 rintro vr53 _ ⟨hr54,rfl⟩
 have hlv55:=eO (x:=P) hLm
 refine aS (v:=vr53) rfl (aS (v:=(.bool true)) rfl (aE ?_))
 refine gH ?_
 refine⟨[vr53,(.bool true)],⟨rfl,⟨rfl,trivial⟩⟩,?_⟩
 have hres:=hr54
 rw[hfin] at hres
 exact⟨⟨_,rfl,hres⟩,hE⟩
theorem bTu {w:World} {Dx:Nat->TypeId->Prop} {vx:Value} {x:List Nat} (hx0:Sg (gN .u32) Dx w vx x) (lmx:Lm x) (lnx:x.length<=1099511627776) {d:Nat} (hd0:0<d) (hd:d<4294967296):
 Calls Tryz.prog 151 #[vx,(.int .u32 (d:Int))] w λe w'=>∃v,e= .returned v/\(∃vq vr,v= .tuple #[vq,vr]/\Sg (gN .u32) (λb T=>w.heap.size<=b/\T=131) w' vq (aJ (val x/d))/\Sg (gN .u32) (λb T=>w.heap.size<=b/\T=131) w' vr (aJ (val x%d)))/\Ext w w':=by
 have hE:Below w.heap.size w w:=Below.refl _ _
 have hx:=hx0.old
 clear hx0
 have hlvx:=eO lmx
 refine eE (n:=42) (rs:=[.tmp 4,.tmp 5]) func151 rfl rfl rfl bL ?_
 refine iU λF0 hF0=>?_
 refine wsr (aS (v:=(.slice none (0) (0))) rfl (aS (v:=(.slice none (0) (0))) rfl (aE (wsr (mV (v:=vx) (hF0 0) ?_)))))
 obtain⟨A1,c2,hv3,hc4,hc5⟩:=hx.len
 refine rV (gX eC hv3) ?_
 have hn11:(((x.length:Nat):Int):Int)=((x.length:Nat):Int):=by omega
 refine rU (uS (n:=x.length) eC eR rfl (cQ hn11) (cQ hn11) oM oM) ?_
 rintro _ w6 ⟨b7,rfl,hs10,hb9,he8⟩
 have ge_b7:=hE.ge hs10
 replace hE:=hE.nx he8
 replace hb9:=Ar.made (g:=(gN .u32)) (z:=(0:Nat)) hb9 rfl
 have hb9l:=hb9.lt
 refine aS (v:=(.slice (some ⟨b7,0,none⟩) (x.length) (x.length))) rfl (aE (wsr (aS (v:=(.int .u64 0)) rfl (aE (dV (wsr (mV (v:=vx) (hF0 0) (rV (gX eC hv3) (rV (lT (k:=.i64) (a:=((x.length:Nat):Int)) (b:=1) (c:=((x.length:Nat):Int)-1) rfl rfl (jS oM)) (aS (v:=(iv (((x.length:Nat):Int)-1))) rfl (aE ?_)))))))))))
 refine gC ?_
 refine iU λF12 hF13=>?_
 refine oP (σ:=Nat×Nat×List Nat) (λ(s:Nat×Nat×List Nat) fl wl=>match s with|(m,r,Q)=>Off (rg 6 2 (rg 14 24 [])) F12 fl/\fl 7=(iv ((m:Int)-1))/\fl 6=(.int .u64 (r:Int))/\(m<=x.length)/\(r<d)/\(Q.length+m=x.length)/\(Lm Q)/\(val (x.drop m)=val Q*d+r)/\(Ar (gN .u32) wl b7 131 0 (List.replicate m 0++Q) x.length)/\(Sg (gN .u32) (λb T=>Dx b T/\b<w.heap.size) wl vx x)/\(Below w.heap.size w wl)) (λ(s:Nat×Nat×List Nat)=>match s with|(m,r,Q)=>m) (x.length,0,[]) ?_ ?_
 ·replace hx:=hx.tr (aH he8)
  exact⟨Off.refl _ _,(hF13 7).trans (rfl),(hF13 6).trans (rfl),aI _,by omega,by simp,Lm.nil,(by rw[cB (aI _)];simp[val]),(by simpa using hb9),hx,hE⟩
 clear hx hE hb9
 rintro⟨m,r,Q⟩ f14 w15 ⟨G16,hs17,hs18,hm,hr,hQl,hQm,hv,hb9,hx,hE⟩
 refine dV (wsr (mV hs17 (rV (aEa (k:=.i64) (a:=(m:Int)-1) (b:=0) rfl rfl) (aE ?_))))
 refine wcD (p:=0<=((m:Int)-1)) rfl (λhb19 hb19p=>?_) (λhb19 hb19p=>?_)
 ·refine fL ?_
  refine dV ?_
  refine gC ?_
  refine dV ?_
  obtain⟨n,hmn⟩:∃n,m=n+1:=⟨m-1,by omega⟩
  have hxn:=lmx.at (k:=n) oM
  have hll:=bHc hr hd hxn
  refine cV (mV hs18 (rV (aBf (k:=.u64) (a:=(r:Int)) (b:=32) (c:=((r*4294967296:Nat):Int)) rfl rfl dC (shl32 oM)) (mV (v:=vx) ((G16 0 rfl).trans ((hF13 0).trans (hF0 0))) (mV hs17 ?_))))
  obtain⟨b20,o21,c22,hv23,hc24⟩:=hx.ix (i:=(m:Int)-1) (n) oM oM
  refine rV (cA (i:=(m:Int)-1) eC eR hv23 rfl oM oM) (rV (dJ (v:=(.int .u32 (((x.getD (n) default:Nat):Int)))) eS kH rfl hc24) (rV (fE (k:=.u64) (a:=((x.getD (n) default:Nat):Int)) (c:=((x.getD (n) default:Nat):Int)) eS jE rfl (iV oM)) (rV (aJd (k:=.u64) (a:=((r*4294967296:Nat):Int)) (b:=((x.getD (n) default:Nat):Int)) (c:=(((r*4294967296+x.getD n default):Nat):Int)) rfl rfl (or32 oM hxn)) (aS (v:=(.int .u64 ((((r*4294967296+x.getD n default):Nat):Int)))) rfl (aE (wsr (mV (v:=(.slice (some ⟨b7,0,none⟩) (x.length) (x.length))) ((G16 4 rfl).trans (hF13 4)) (mV hs17 (mV (v:=(.int .u64 ((((r*4294967296+x.getD n default):Nat):Int)))) rfl (mV (v:=(.int .u32 (d:Int))) ((G16 1 rfl).trans ((hF13 1).trans (hF0 1))) (rV (fE (k:=.u64) (a:=(d:Int)) (c:=(d:Int)) eS jE rfl (iV oM)) (rV (aBe (k:=.u64) (a:=(((r*4294967296+x.getD n default):Nat):Int)) (b:=(d:Int)) (c:=(((r*4294967296+x.getD n default)/d:Nat):Int)) rfl rfl oM (quoN hll.2)) (rV (fE (k:=.u32) (a:=(((r*4294967296+x.getD n default)/d:Nat):Int)) (c:=(((r*4294967296+x.getD n default)/d:Nat):Int)) jE eS rfl (aOk (by have h8:=hll.1;generalize (r*4294967296+x.getD n default)/d=q9 at*;omega))) (rV (cA (i:=(m:Int)-1) eC eR rfl rfl oM oM) ?_))))))))))))))
  refine fC rfl rfl (aAg (g:=(gN .u32)) (vv:=(.int .u32 ((((r*4294967296+x.getD n default)/d:Nat):Int)))) (u:=(r*4294967296+x.getD n default)/d) (i:=(m:Int)-1) eR rfl rfl rfl rfl rfl hb9 (n) oM oM) ?_
  rintro w25 ⟨ha26,hx27⟩
  replace hE:=hE.nb hx27 ge_b7
  replace hb9:=ha26
  refine aE (cV (mV (v:=(.int .u64 ((((r*4294967296+x.getD n default):Nat):Int)))) rfl (mV (v:=(.int .u32 (d:Int))) ((G16 1 rfl).trans ((hF13 1).trans (hF0 1))) (rV (fE (k:=.u64) (a:=(d:Int)) (c:=(d:Int)) eS jE rfl (iV oM)) (rV (aDz (k:=.u64) (a:=(((r*4294967296+x.getD n default):Nat):Int)) (b:=(d:Int)) (c:=(((r*4294967296+x.getD n default)%d:Nat):Int)) rfl rfl oM (aVg _ _)) (aS (v:=(.int .u64 ((((r*4294967296+x.getD n default)%d:Nat):Int)))) rfl (aE (cV (mV hs17 (rV (lT (k:=.i64) (a:=(m:Int)-1) (b:=1) (c:=((m:Int)-1)-1) rfl rfl (jS oM)) (aS (v:=(iv (((m:Int)-1)-1))) rfl (aE ?_))))))))))))
  replace hx:=hx.tr (Sm.exc hx27 (λ_ _ _ _ hd=>absurd hd.2 (bS ge_b7)))
  refine⟨(n,(r*4294967296+x.getD n default)%d,(r*4294967296+x.getD n default)/d::Q),⟨?_,?_,?_,?_,?_,?_,?_,?_,?_,?_,?_⟩,?_⟩
  ·exact(by repeat (first|exact G16|refine Off.st ?_ dC _))
  ·first|rfl|exact cQ oM|exact aW (by simp)
  ·first|rfl|exact cQ oM|exact aW (by simp)
  ·omega
  ·exact dM _ oM
  ·rw[eI];omega
  ·exact λz hz=>by rcases bJ.1 hz with rfl|hz;exact hll.1;exact hQm z hz
  ·exact aVk oM oM (by rw[<-hmn];exact hv)
  ·rw[hmn,bTo] at hb9;exact hb9
  ·exact hx
  ·exact hE
  (try dsimp only)
  omega
 refine nG ?_
 refine dV ?_
 have hm0:m=0:=by omega
 rw[hm0,List.replicate_zero,kC] at hb9
 rw[hm0,mF] at hv
 have hfin:=aJh (n:=val x) (b:=d) hv hr
 refine cV (mV (v:=(.slice (some ⟨b7,0,none⟩) (x.length) (x.length))) ((G16 4 rfl).trans (hF13 4)) ?_)
 refine cL mK (pL (hb9.sc (D:=(λb T=>w.heap.size<=b/\T=131)) (aI _) oM ⟨ge_b7,rfl⟩) hQm (by first|omega|(simp;done)|(simp;omega))) rfl ?_
 rintro vr29 _ ⟨hr30,rfl⟩
 have hlv31:=eO (x:=Q) hQm
 refine mV hs18 ?_
 refine cL vU (vV oM) rfl ?_
 rintro vr34 w32 ⟨hr35,he33⟩
 replace hr35:=hr35.fr hE
 replace hE:=hE.nx he33
 have hlv36:=vT (n:=r) oM
 refine aS (v:=vr29) rfl (aS (v:=vr34) rfl (aE ?_))
 refine gH ?_
 refine⟨[vr29,vr34],⟨rfl,⟨rfl,trivial⟩⟩,?_⟩
 replace hr30:=hr30.tr (aH he33)
 have h1:=hr30
 have h2:=hr35
 rw[hfin.1] at h1
 rw[hfin.2] at h2
 exact⟨⟨_,_,rfl,h1,h2⟩,hE⟩
theorem aXx {P2 P:List Nat} {t k n:Nat} (h2:P2.length=n) (hP:P.length=n) (hk:k=n):(P2++(P++[t]).drop k).getD n default=t:=by
 subst hk
 rw[aEt h2,bF,cO oM,hP,jW];rfl
theorem aVl {a:Nat} (h:a+1=4294967296):IntKind.u32.wrap ((a:Int)+1)=((0:Nat):Int):=by
 rw[show(a:Int)+1=4294967296 by omega];decide
theorem bMy {w:World} {b cap:Nat} {pre post:List Value} {u y:List Nat} {Dy:Nat->TypeId->Prop} {vy:Value} (hu:Ag (gN .u32) w b 131 pre u post (y.length+1)) (hy:Sg (gN .u32) Dy w vy y) (hDy:∀T,¬Dy b T) (lmu:Lm u) (lmy:Lm y) (hn2:2<=y.length) (hnb:y.length<=1099511627776) (htop:2147483648<=y.getD (y.length-1) default) (hq:val u<val y*4294967296):
 Calls Tryz.prog 175 #[(.slice (some ⟨b,pre.length,none⟩) (y.length+1) (cap)),vy] w λe w'=>∃v,e= .returned v/\v= .int .u32 ((val u/val y:Nat):Int)/\(∃u',Ag (gN .u32) w' b 131 pre u' post (y.length+1)/\Lm u'/\val u'=val u%val y)/\Exc b w w':=by
 have hX:Exc b w w:=Exc.of_ext (gE _)
 have hul:=hu.2
 have hK:=bTp hul rfl hn2 lmu lmy htop hq
 obtain⟨un,hun⟩:∃z,z=u.getD y.length default:=⟨_,rfl⟩
 obtain⟨un1,hun1⟩:∃z,z=u.getD (y.length-1) default:=⟨_,rfl⟩
 obtain⟨u2,hu2⟩:∃z,z=u.getD (y.length-2) default:=⟨_,rfl⟩
 obtain⟨v1,hv1⟩:∃z,z=y.getD (y.length-1) default:=⟨_,rfl⟩
 obtain⟨v2,hv2⟩:∃z,z=y.getD (y.length-2) default:=⟨_,rfl⟩
 have bun:=lmu.at (k:=y.length) oM
 have bun1:=lmu.at (k:=y.length-1) oM
 have bu2:=lmu.at (k:=y.length-2) oM
 have bv1:=lmy.at (k:=y.length-1) oM
 have bv2:=lmy.at (k:=y.length-2) oM
 rw[<-hun,<-hun1,<-hu2,<-hv1,<-hv2] at hK
 rw[<-hun] at bun
 rw[<-hun1] at bun1
 rw[<-hu2] at bu2
 rw[<-hv1] at bv1 htop
 rw[<-hv2] at bv2
 refine eE (n:=170) (rs:=[.tmp 4]) func175 rfl rfl rfl bL ?_
 refine iU λF0 hF0=>?_
 refine wsr (aS (v:=(.int .u32 0)) rfl (aE (wsr (mV (v:=vy) (hF0 1) ?_))))
 obtain⟨A1,c2,hv3,hc4,hc5⟩:=hy.len
 refine rV (gX eC hv3) (aS (v:=(iv (y.length:Nat))) rfl (aE (dV ?_)))
 refine oQ pJ λw6 he7=>?_
 have he7z:=he7.size
 replace hu:=hu.ext he7
 replace hy:=hy.tr (aH he7)
 replace hX:=hX.trans (Exc.of_ext he7)
 refine aM 0 rfl (v:=(.slice (some ⟨b,pre.length,none⟩) (y.length+1) (cap))) (hF0 0) ?_
 refine aM 1 rfl (v:=(iv (y.length:Nat))) rfl ?_
 refine ra 2 rfl (λ_=>cA (i:=((y.length:Nat):Int)) eC eR rfl rfl oM oM) ?_
 have hc8:=hu.cell (i:=((y.length:Nat):Int)) (y.length) oM oM
 rw[show u.getD (y.length) default=un from hun.symm] at hc8
 refine aR 3 rfl (λu hu=>dJ (v:=(.int .u32 (un:Int))) eS kH rfl (fH hu hc8)) ?_
 refine ra 4 rfl (λ_=>fE (k:=.u64) (a:=(un:Int)) (c:=(un:Int)) eS jE rfl (iV oM)) ?_
 refine ra 5 rfl (λ_=>aBf (k:=.u64) (a:=(un:Int)) (b:=32) (c:=((un*4294967296:Nat):Int)) rfl rfl dC (shl32 bun)) ?_
 refine aM 6 rfl (v:=(.slice (some ⟨b,pre.length,none⟩) (y.length+1) (cap))) (hF0 0) ?_
 refine aM 7 rfl (v:=(iv (y.length:Nat))) rfl ?_
 refine ra 8 rfl (λ_=>lT (k:=.i64) (a:=((y.length:Nat):Int)) (b:=1) (c:=((y.length:Nat):Int)-1) rfl rfl (jS oM)) ?_
 refine ra 9 rfl (λ_=>cA (i:=((y.length:Nat):Int)-1) eC eR rfl rfl oM oM) ?_
 have hc9:=hu.cell (i:=((y.length:Nat):Int)-1) (y.length-1) oM oM
 rw[show u.getD (y.length-1) default=un1 from hun1.symm] at hc9
 refine aR 10 rfl (λu hu=>dJ (v:=(.int .u32 (un1:Int))) eS kH rfl (fH hu hc9)) ?_
 refine ra 11 rfl (λ_=>fE (k:=.u64) (a:=(un1:Int)) (c:=(un1:Int)) eS jE rfl (iV oM)) ?_
 refine ra 12 rfl (λ_=>aJd (k:=.u64) (a:=((un*4294967296:Nat):Int)) (b:=(un1:Int)) (c:=(((un*4294967296+un1):Nat):Int)) rfl rfl (or32 bun bun1)) ?_
 refine aA 13 rfl (v:=(.int .u64 ((((un*4294967296+un1):Nat):Int)))) rfl ?_
 refine RA.done kR ?_
 refine dV ?_
 refine oQ pJ λw10 he11=>?_
 have he11z:=he11.size
 replace hu:=hu.ext he11
 replace hy:=hy.tr (aH he11)
 replace hX:=hX.trans (Exc.of_ext he11)
 refine aM 0 rfl (v:=(.int .u64 ((((un*4294967296+un1):Nat):Int)))) rfl ?_
 refine aM 1 rfl (v:=vy) (hF0 1) ?_
 refine aM 2 rfl (v:=(iv (y.length:Nat))) rfl ?_
 refine ra 3 rfl (λ_=>lT (k:=.i64) (a:=((y.length:Nat):Int)) (b:=1) (c:=((y.length:Nat):Int)-1) rfl rfl (jS oM)) ?_
 obtain⟨b12,o13,c14,hv15,hc16⟩:=hy.ix (i:=((y.length:Nat):Int)-1) (y.length-1) oM oM
 rw[show y.getD (y.length-1) default=v1 from hv1.symm] at hc16
 refine ra 4 rfl (λ_=>cA (i:=((y.length:Nat):Int)-1) eC eR hv15 rfl oM oM) ?_
 refine aR 5 rfl (λu hu=>dJ (v:=(.int .u32 (v1:Int))) eS kH rfl (fH hu hc16)) ?_
 refine ra 6 rfl (λ_=>fE (k:=.u64) (a:=(v1:Int)) (c:=(v1:Int)) eS jE rfl (iV oM)) ?_
 refine ra 7 rfl (λ_=>aBe (k:=.u64) (a:=(((un*4294967296+un1):Nat):Int)) (b:=(v1:Int)) (c:=(((un*4294967296+un1)/v1:Nat):Int)) rfl rfl oM (quoN oM)) ?_
 refine aM 8 rfl (v:=(.int .u64 ((((un*4294967296+un1):Nat):Int)))) rfl ?_
 refine aM 9 rfl (v:=vy) (hF0 1) ?_
 refine aM 10 rfl (v:=(iv (y.length:Nat))) rfl ?_
 refine ra 11 rfl (λ_=>lT (k:=.i64) (a:=((y.length:Nat):Int)) (b:=1) (c:=((y.length:Nat):Int)-1) rfl rfl (jS oM)) ?_
 obtain⟨b17,o18,c19,hv20,hc21⟩:=hy.ix (i:=((y.length:Nat):Int)-1) (y.length-1) oM oM
 rw[show y.getD (y.length-1) default=v1 from hv1.symm] at hc21
 refine ra 12 rfl (λ_=>cA (i:=((y.length:Nat):Int)-1) eC eR hv20 rfl oM oM) ?_
 refine aR 13 rfl (λu hu=>dJ (v:=(.int .u32 (v1:Int))) eS kH rfl (fH hu hc21)) ?_
 refine ra 14 rfl (λ_=>fE (k:=.u64) (a:=(v1:Int)) (c:=(v1:Int)) eS jE rfl (iV oM)) ?_
 refine ra 15 rfl (λ_=>aDz (k:=.u64) (a:=(((un*4294967296+un1):Nat):Int)) (b:=(v1:Int)) (c:=(((un*4294967296+un1)%v1:Nat):Int)) rfl rfl oM (aVg _ _)) ?_
 refine aA 16 rfl (v:=(.int .u64 ((((un*4294967296+un1)/v1:Nat):Int)))) rfl ?_
 refine aA 17 rfl (v:=(.int .u64 ((((un*4294967296+un1)%v1:Nat):Int)))) rfl ?_
 refine RA.done kR ?_
 refine iU λF22 hF23=>?_
 refine vN (λfl wl=>∃dq:Nat,Off (rg 7 2 (rg 48 36 [])) F22 fl/\fl 7=(.int .u64 (dq:Int))/\(val u/val y<=dq)/\(dq<=val u/val y+1)/\(dq<4294967296)/\(Ag (gN .u32) wl b 131 pre u post (y.length+1))/\(Sg (gN .u32) Dy wl vy y)/\(Exc b w wl)) ?_ ?_
 ·have G24:=Off.refl (rg 7 2 (rg 48 36 [])) F22
  refine gC ?_
  refine iU λF25 hF26=>?_
  refine oP (σ:=Nat×Nat) (λ(s:Nat×Nat) fl wl=>match s with|(dg,rs)=>Off (rg 7 2 (rg 48 36 [])) F25 fl/\fl 7=(.int .u64 (dg:Int))/\fl 8=(.int .u64 (rs:Int))/\(Kn (val u) (val y) (un*4294967296+un1) v1 dg rs)/\(rs<4294967296)/\(Ag (gN .u32) wl b 131 pre u post (y.length+1))/\(Sg (gN .u32) Dy wl vy y)/\(Exc b w wl)) (λ(s:Nat×Nat)=>match s with|(dg,rs)=>dg) ((un*4294967296+un1)/v1,(un*4294967296+un1)%v1) ?_ ?_
  ·exact⟨Off.refl _ _,(hF26 7).trans (((hF23 7)).trans rfl),(hF26 8).trans (((hF23 8)).trans rfl),hK.start,aY (dM _ oM) bv1,hu,hy,hX⟩
  clear hu hy hX
  rintro⟨dg,rs⟩ f27 w28 ⟨G29,hs30,hs31,hKn,hrs,hu,hy,hX⟩
  refine dV (dV ?_)
  refine oQ pJ λw32 he33=>?_
  have he33z:=he33.size
  replace hu:=hu.ext he33
  replace hy:=hy.tr (aH he33)
  replace hX:=hX.trans (Exc.of_ext he33)
  refine aM 0 rfl (v:=(.int .u64 (dg:Int))) hs30 ?_
  refine ra 1 rfl (λ_=>tU (k:=.u64) (a:=(dg:Int)) (b:=32) (c:=((dg/4294967296:Nat):Int)) rfl rfl dC (shr32 _)) ?_
  refine ra 2 rfl (λ_=>xO (k:=.u64) (a:=((dg/4294967296:Nat):Int)) (b:=0) rfl rfl) ?_
  refine aM 3 rfl (v:=(bd (((dg/4294967296:Nat):Int)≠0))) rfl ?_
  rcases bD (((dg/4294967296:Nat):Int)≠0) with ⟨hb34,hb34p⟩|⟨hb34,hb34p⟩
  ·have hdB:4294967296<=dg:=by have:=hb34p;omega
   refine aN 4 rfl rfl (.inl (aW hb34)) ?_
   refine aN 5 rfl rfl (.inl (aW hb34)) ?_
   refine aN 6 rfl rfl (.inl (aW hb34)) ?_
   refine aN 7 rfl rfl (.inl (aW hb34)) ?_
   refine aN 8 rfl rfl (.inl (aW hb34)) ?_
   refine aN 9 rfl rfl (.inl (aW hb34)) ?_
   refine aN 10 rfl rfl (.inl (aW hb34)) ?_
   refine aN 11 rfl rfl (.inl (aW hb34)) ?_
   refine aN 12 rfl rfl (.inl (aW hb34)) ?_
   refine aN 13 rfl rfl (.inl (aW hb34)) ?_
   refine aN 14 rfl rfl (.inl (aW hb34)) ?_
   refine aN 15 rfl rfl (.inl (aW hb34)) ?_
   refine aN 16 rfl rfl (.inl (aW hb34)) ?_
   refine aN 17 rfl rfl (.inl (aW hb34)) ?_
   refine aN 18 rfl rfl (.inl (aW hb34)) ?_
   refine aN 19 rfl rfl (.inl (aW hb34)) ?_
   refine aN 20 rfl rfl (.inl (aW hb34)) ?_
   refine aN 21 rfl rfl (.inl (aW hb34)) ?_
   refine ra 22 rfl (λ_=>kT (v:=(.bool true)) (aW hb34) rfl) ?_
   refine RA.done kR ?_
   refine wV rfl ?_
   refine fL ?_
   refine gC ?_
   refine dV ?_
   have hcond:4294967296<=dg\/rs*4294967296+u2<dg*v2:=by first|exact .inl oM|exact .inr oM
   have hst:=hK.step hKn hcond
   have hle:=hKn.le
   have hge1:=hst.2
   refine cV (mV hs30 (rV (lT (k:=.u64) (a:=(dg:Int)) (b:=1) (c:=((dg-1:Nat):Int)) rfl rfl ((iV oM).trans oM)) (aS (v:=(.int .u64 (((dg-1:Nat):Int)))) rfl (aE (wsr (mV hs31 (mV (v:=vy) ((G29 1 rfl).trans ((hF26 1).trans ((hF23 1).trans (hF0 1)))) (mV (v:=(iv (y.length:Nat))) ((G29 5 rfl).trans ((hF26 5).trans (hF23 5))) (rV (lT (k:=.i64) (a:=((y.length:Nat):Int)) (b:=1) (c:=((y.length:Nat):Int)-1) rfl rfl (jS oM)) ?_)))))))))
   obtain⟨b35,o36,c37,hv38,hc39⟩:=hy.ix (i:=((y.length:Nat):Int)-1) (y.length-1) oM oM
   rw[show y.getD (y.length-1) default=v1 from hv1.symm] at hc39
   refine rV (cA (i:=((y.length:Nat):Int)-1) eC eR hv38 rfl oM oM) (rV (dJ (v:=(.int .u32 (v1:Int))) eS kH rfl hc39) (rV (fE (k:=.u64) (a:=(v1:Int)) (c:=(v1:Int)) eS jE rfl (iV oM)) (rV (kE (k:=.u64) (a:=(rs:Int)) (b:=(v1:Int)) (c:=((rs+v1:Nat):Int)) rfl rfl ((iV oM).trans oM)) (aS (v:=(.int .u64 (((rs+v1:Nat):Int)))) rfl (aE (wsr (mV (v:=(.int .u64 (((rs+v1:Nat):Int)))) rfl (rV (tU (k:=.u64) (a:=((rs+v1:Nat):Int)) (b:=32) (c:=(((rs+v1)/4294967296:Nat):Int)) rfl rfl dC (shr32 _)) (rV (xO (k:=.u64) (a:=(((rs+v1)/4294967296:Nat):Int)) (b:=0) rfl rfl) (aE ?_))))))))))
   refine wcD (p:=(((rs+v1)/4294967296:Nat):Int)≠0) rfl (λhb40 hb40p=>?_) (λhb40 hb40p=>?_)
   ·have hbr:=hb40p
    refine nG ?_
    refine⟨dg-1,?_,?_,?_,?_,?_,?_,?_,?_⟩
    ·exact(by repeat (first|exact G24|refine Off.st ?_ dC _|refine Off.via G29 dC ?_|refine Off.eq hF26 ?_))
    ·rfl
    ·first|exact hKn.ge|exact hst.1.ge
    ·first|exact hK.exit hKn oM oM|exact vJ (hK.brk hst.1 (by have:=hKn.le;omega) oM)
    ·first|omega|(have h1:=hK.brk hst.1 (by have:=hKn.le;omega) oM;have h2:=hK.lt;omega)
    ·exact hu
    ·exact hy
    exact hX
   have hbr:=hb40p
   refine fL ?_
   refine⟨(dg-1,rs+v1),⟨?_,?_,?_,?_,?_,?_,?_,?_⟩,?_⟩
   ·exact(by repeat (first|exact G29|refine Off.st ?_ dC _))
   ·first|rfl|exact cQ oM|exact aW (by simp)
   ·first|rfl|exact cQ oM|exact aW (by simp)
   ·exact hst.1
   ·omega
   ·exact hu
   ·exact hy
   ·exact hX
   (try dsimp only)
   have:=hst.2
   omega
  have hdB:dg<4294967296:=by have:=hb34p;omega
  have hmul:=yA hdB bv2
  obtain⟨pm,hpm⟩:∃z,z=dg*v2:=⟨_,rfl⟩
  rw[<-hpm] at hmul
  refine aG 4 rfl rfl (aW hb34) (λ_=>gS (v:=(.int .u64 (dg:Int))) hs30) ?_
  refine aG 5 rfl rfl (aW hb34) (λ_=>gS (v:=vy) ((G29 1 rfl).trans ((hF26 1).trans ((hF23 1).trans (hF0 1))))) ?_
  refine aG 6 rfl rfl (aW hb34) (λ_=>gS (v:=(iv (y.length:Nat))) ((G29 5 rfl).trans ((hF26 5).trans (hF23 5)))) ?_
  refine aG 7 rfl rfl (aW hb34) (λ_=>lT (k:=.i64) (a:=((y.length:Nat):Int)) (b:=2) (c:=((y.length:Nat):Int)-2) rfl rfl (jS oM)) ?_
  obtain⟨b41,o42,c43,hv44,hc45⟩:=hy.ix (i:=((y.length:Nat):Int)-2) (y.length-2) oM oM
  rw[show y.getD (y.length-2) default=v2 from hv2.symm] at hc45
  refine aG 8 rfl rfl (aW hb34) (λ_=>cA (i:=((y.length:Nat):Int)-2) eC eR hv44 rfl oM oM) ?_
  refine RA.grd 9 rfl kR rfl rfl rfl (aW hb34) rfl dC (gE _) (λu hu=>dJ (v:=(.int .u32 (v2:Int))) eS kH rfl (fH hu hc45)) ?_
  refine aG 10 rfl rfl (aW hb34) (λ_=>fE (k:=.u64) (a:=(v2:Int)) (c:=(v2:Int)) eS jE rfl (iV oM)) ?_
  refine aG 11 rfl rfl (aW hb34) (λ_=>uR (k:=.u64) (a:=(dg:Int)) (b:=(v2:Int)) (c:=((dg*v2:Nat):Int)) rfl rfl ((iV (by rw[<-dH,<-hpm];omega)).trans (by rw[dH]))) ?_
  refine aG 12 rfl rfl (aW hb34) (λ_=>gS (v:=(.int .u64 (rs:Int))) hs31) ?_
  refine aG 13 rfl rfl (aW hb34) (λ_=>aBf (k:=.u64) (a:=(rs:Int)) (b:=32) (c:=((rs*4294967296:Nat):Int)) rfl rfl dC (shl32 hrs)) ?_
  refine aG 14 rfl rfl (aW hb34) (λ_=>gS (v:=(.slice (some ⟨b,pre.length,none⟩) (y.length+1) (cap))) ((G29 0 rfl).trans ((hF26 0).trans ((hF23 0).trans (hF0 0))))) ?_
  refine aG 15 rfl rfl (aW hb34) (λ_=>gS (v:=(iv (y.length:Nat))) ((G29 5 rfl).trans ((hF26 5).trans (hF23 5)))) ?_
  refine aG 16 rfl rfl (aW hb34) (λ_=>lT (k:=.i64) (a:=((y.length:Nat):Int)) (b:=2) (c:=((y.length:Nat):Int)-2) rfl rfl (jS oM)) ?_
  refine aG 17 rfl rfl (aW hb34) (λ_=>cA (i:=((y.length:Nat):Int)-2) eC eR rfl rfl oM oM) ?_
  have hc46:=hu.cell (i:=((y.length:Nat):Int)-2) (y.length-2) oM oM
  rw[show u.getD (y.length-2) default=u2 from hu2.symm] at hc46
  refine RA.grd 18 rfl kR rfl rfl rfl (aW hb34) rfl dC (gE _) (λu hu=>dJ (v:=(.int .u32 (u2:Int))) eS kH rfl (fH hu hc46)) ?_
  refine aG 19 rfl rfl (aW hb34) (λ_=>fE (k:=.u64) (a:=(u2:Int)) (c:=(u2:Int)) eS jE rfl (iV oM)) ?_
  refine aG 20 rfl rfl (aW hb34) (λ_=>aJd (k:=.u64) (a:=((rs*4294967296:Nat):Int)) (b:=(u2:Int)) (c:=((rs*4294967296+u2:Nat):Int)) rfl rfl (or32 hrs bu2)) ?_
  refine aG 21 rfl rfl (aW hb34) (λ_=>aAf (k:=.u64) (a:=((dg*v2:Nat):Int)) (b:=((rs*4294967296+u2:Nat):Int)) rfl rfl) ?_
  refine ra 22 rfl (λ_=>mO (v:=(bd (((rs*4294967296+u2:Nat):Int)<((dg*v2:Nat):Int)))) (aW hb34) rfl) ?_
  refine RA.done kR ?_
  refine wcD (p:=((rs*4294967296+u2:Nat):Int)<((dg*v2:Nat):Int)) rfl (λhb47 hb47p=>?_) (λhb47 hb47p=>?_)
  ·have hlt:=hb47p
   refine fL ?_
   refine gC ?_
   refine dV ?_
   have hcond:4294967296<=dg\/rs*4294967296+u2<dg*v2:=by first|exact .inl oM|exact .inr oM
   have hst:=hK.step hKn hcond
   have hle:=hKn.le
   have hge1:=hst.2
   refine cV (mV hs30 (rV (lT (k:=.u64) (a:=(dg:Int)) (b:=1) (c:=((dg-1:Nat):Int)) rfl rfl ((iV oM).trans oM)) (aS (v:=(.int .u64 (((dg-1:Nat):Int)))) rfl (aE (wsr (mV hs31 (mV (v:=vy) ((G29 1 rfl).trans ((hF26 1).trans ((hF23 1).trans (hF0 1)))) (mV (v:=(iv (y.length:Nat))) ((G29 5 rfl).trans ((hF26 5).trans (hF23 5))) (rV (lT (k:=.i64) (a:=((y.length:Nat):Int)) (b:=1) (c:=((y.length:Nat):Int)-1) rfl rfl (jS oM)) ?_)))))))))
   obtain⟨b48,o49,c50,hv51,hc52⟩:=hy.ix (i:=((y.length:Nat):Int)-1) (y.length-1) oM oM
   rw[show y.getD (y.length-1) default=v1 from hv1.symm] at hc52
   refine rV (cA (i:=((y.length:Nat):Int)-1) eC eR hv51 rfl oM oM) (rV (dJ (v:=(.int .u32 (v1:Int))) eS kH rfl hc52) (rV (fE (k:=.u64) (a:=(v1:Int)) (c:=(v1:Int)) eS jE rfl (iV oM)) (rV (kE (k:=.u64) (a:=(rs:Int)) (b:=(v1:Int)) (c:=((rs+v1:Nat):Int)) rfl rfl ((iV oM).trans oM)) (aS (v:=(.int .u64 (((rs+v1:Nat):Int)))) rfl (aE (wsr (mV (v:=(.int .u64 (((rs+v1:Nat):Int)))) rfl (rV (tU (k:=.u64) (a:=((rs+v1:Nat):Int)) (b:=32) (c:=(((rs+v1)/4294967296:Nat):Int)) rfl rfl dC (shr32 _)) (rV (xO (k:=.u64) (a:=(((rs+v1)/4294967296:Nat):Int)) (b:=0) rfl rfl) (aE ?_))))))))))
   refine wcD (p:=(((rs+v1)/4294967296:Nat):Int)≠0) rfl (λhb53 hb53p=>?_) (λhb53 hb53p=>?_)
   ·have hbr:=hb53p
    refine nG ?_
    refine⟨dg-1,?_,?_,?_,?_,?_,?_,?_,?_⟩
    ·exact(by repeat (first|exact G24|refine Off.st ?_ dC _|refine Off.via G29 dC ?_|refine Off.eq hF26 ?_))
    ·rfl
    ·first|exact hKn.ge|exact hst.1.ge
    ·first|exact hK.exit hKn oM oM|exact vJ (hK.brk hst.1 (by have:=hKn.le;omega) oM)
    ·first|omega|(have h1:=hK.brk hst.1 (by have:=hKn.le;omega) oM;have h2:=hK.lt;omega)
    ·exact hu
    ·exact hy
    exact hX
   have hbr:=hb53p
   refine fL ?_
   refine⟨(dg-1,rs+v1),⟨?_,?_,?_,?_,?_,?_,?_,?_⟩,?_⟩
   ·exact(by repeat (first|exact G29|refine Off.st ?_ dC _))
   ·first|rfl|exact cQ oM|exact aW (by simp)
   ·first|rfl|exact cQ oM|exact aW (by simp)
   ·exact hst.1
   ·omega
   ·exact hu
   ·exact hy
   ·exact hX
   (try dsimp only)
   have:=hst.2
   omega
  have hlt:=hb47p
  refine nG ?_
  refine⟨dg,?_,?_,?_,?_,?_,?_,?_,?_⟩
  ·exact(by repeat (first|exact G24|refine Off.st ?_ dC _|refine Off.via G29 dC ?_|refine Off.eq hF26 ?_))
  ·refine(hs30).trans ?_
   rfl
  ·first|exact hKn.ge|exact hst.1.ge
  ·first|exact hK.exit hKn oM oM|exact vJ (hK.brk hst.1 (by have:=hKn.le;omega) oM)
  ·first|omega|(have h1:=hK.brk hst.1 (by have:=hKn.le;omega) oM;have h2:=hK.lt;omega)
  ·exact hu
  ·exact hy
  exact hX
 clear hu hy hX
 rintro f54 w55 ⟨dq,G56,hs57,hq1,hq2,hdb,hu,hy,hX⟩
 refine wsr (aS (v:=(.int .u64 0)) rfl (aE (dV (wsr (mV (v:=vy) ((G56 1 rfl).trans ((hF23 1).trans (hF0 1))) (rV (gX eC hv3) (mV (v:=(iv 0)) rfl (aE ?_))))))))
 refine gC ?_
 refine iU λF58 hF59=>?_
 refine oP (σ:=Nat×Nat×List Nat) (λ(s:Nat×Nat×List Nat) fl wl=>match s with|(k,c,P)=>Off (rg 9 5 (rg 86 31 [])) F58 fl/\fl 86=(iv k)/\fl 9=(.int .u64 (c:Int))/\(k<=y.length)/\(P.length=k)/\(Lm P)/\(c<4294967296)/\(val P+dq*val (y.take k)=val (u.take k)+4294967296^k*c)/\(Ag (gN .u32) wl b 131 pre (P++u.drop k) post (y.length+1))/\(Sg (gN .u32) Dy wl vy y)/\(Exc b w wl)) (λ(s:Nat×Nat×List Nat)=>match s with|(k,c,P)=>y.length-k) (0,0,[]) ?_ ?_
 ·exact⟨Off.refl _ _,(hF59 86).trans (rfl),(hF59 9).trans (rfl),aF _,rfl,Lm.nil,by decide,(by simp[val]),hu,hy,hX⟩
 clear hu hy hX
 rintro⟨k,c,P⟩ f60 w61 ⟨G62,hs63,hs64,hk,hP,hLm,hc,hms,hu,hy,hX⟩
 refine wsr (rV (mP (k:=.i64) (a:=(k:Int)) (b:=((y.length:Nat):Int)) hs63 ((G62 85 rfl).trans (hF59 85))) (aE (dV ?_)))
 refine wcD (p:=(k:Int)<((y.length:Nat):Int)) rfl (λhb65 hb65p=>?_) (λhb65 hb65p=>?_)
 ·refine fL ?_
  refine dV ?_
  refine gC ?_
  refine dV ?_
  have hkl:k<y.length:=by omega
  have huk:=lmu.at (k:=k) oM
  have hvk:=lmy.at hkl
  have hmc:=aXr (u:=u.getD k default) hdb hvk hc huk
  obtain⟨pm,hpm⟩:∃z,z=dq*y.getD k default:=⟨_,rfl⟩
  have hmc1:=hmc.1
  have hlm2:=yA hdb hvk
  refine cV (mV hs63 ?_)
  obtain⟨b66,o67,c68,hv69,hc70⟩:=hy.ix (i:=(k:Int)) (k) oM oM
  refine rV (cA (i:=(k:Int)) eC eR ((((G62 84 rfl).trans (hF59 84))).trans hv69) hs63 oM oM) (rV (dJ (v:=(.int .u32 (((y.getD (k) default:Nat):Int)))) eS kH rfl hc70) (aS (v:=(iv k)) rfl (aS (v:=(.int .u32 (((y.getD (k) default:Nat):Int)))) rfl (aE (wsr (mV (v:=(.int .u64 (dq:Int))) ((G62 7 rfl).trans ((hF59 7).trans hs57)) (mV (v:=(.int .u32 (((y.getD (k) default:Nat):Int)))) rfl (rV (fE (k:=.u64) (a:=((y.getD (k) default:Nat):Int)) (c:=((y.getD (k) default:Nat):Int)) eS jE rfl (iV oM)) (rV (uR (k:=.u64) (a:=(dq:Int)) (b:=((y.getD (k) default:Nat):Int)) (c:=((dq*y.getD k default:Nat):Int)) rfl rfl ((iV (by rw[<-dH];omega)).trans (by rw[dH]))) (mV hs64 (rV (kE (k:=.u64) (a:=((dq*y.getD k default:Nat):Int)) (b:=(c:Int)) (c:=(((dq*y.getD k default+c):Nat):Int)) rfl rfl ((iV oM).trans oM)) (aS (v:=(.int .u64 ((((dq*y.getD k default+c):Nat):Int)))) rfl (aE (wsr (mV (v:=(.slice (some ⟨b,pre.length,none⟩) (y.length+1) (cap))) ((G62 0 rfl).trans ((hF59 0).trans ((G56 0 rfl).trans ((hF23 0).trans (hF0 0))))) (mV (v:=(iv k)) rfl (rV (cA (i:=(k:Int)) eC eR rfl rfl oM oM) ?_)))))))))))))))))
  have hc71:=hu.cell (i:=(k:Int)) (k) oM oM
  rw[show(P++u.drop k).getD (k) default=u.getD k default from (aEt hP)] at hc71
  refine rV (dJ (v:=(.int .u32 (((u.getD k default:Nat):Int)))) eS kH rfl hc71) (rV (fE (k:=.u64) (a:=((u.getD k default:Nat):Int)) (c:=((u.getD k default:Nat):Int)) eS jE rfl (iV oM)) (mV (v:=(.int .u64 ((((dq*y.getD k default+c):Nat):Int)))) rfl (rV (fE (k:=.u32) (a:=(((dq*y.getD k default+c):Nat):Int)) (c:=(((dq*y.getD k default+c)%4294967296:Nat):Int)) jE eS rfl (cu32 _)) (rV (fE (k:=.u64) (a:=(((dq*y.getD k default+c)%4294967296:Nat):Int)) (c:=(((dq*y.getD k default+c)%4294967296:Nat):Int)) eS jE rfl (iV oM)) (rV (lT (k:=.u64) (a:=((u.getD k default:Nat):Int)) (b:=(((dq*y.getD k default+c)%4294967296:Nat):Int)) (c:=(((sb (u.getD k default) ((dq*y.getD k default+c)%4294967296)):Nat):Int)) rfl rfl (wsb oM oM)) (aS (v:=(.int .u64 ((((sb (u.getD k default) ((dq*y.getD k default+c)%4294967296)):Nat):Int)))) rfl (aE (wsr (mV (v:=(.slice (some ⟨b,pre.length,none⟩) (y.length+1) (cap))) ((G62 0 rfl).trans ((hF59 0).trans ((G56 0 rfl).trans ((hF23 0).trans (hF0 0))))) (mV (v:=(iv k)) rfl (mV (v:=(.int .u64 ((((sb (u.getD k default) ((dq*y.getD k default+c)%4294967296)):Nat):Int)))) rfl (rV (fE (k:=.u32) (a:=(((sb (u.getD k default) ((dq*y.getD k default+c)%4294967296)):Nat):Int)) (c:=(((sb (u.getD k default) ((dq*y.getD k default+c)%4294967296))%4294967296:Nat):Int)) jE eS rfl (cu32 _)) (rV (cA (i:=(k:Int)) eC eR rfl rfl oM oM) ?_)))))))))))))
  refine fC rfl rfl (aJm (g:=(gN .u32)) (vv:=(.int .u32 ((((sb (u.getD k default) ((dq*y.getD k default+c)%4294967296))%4294967296:Nat):Int)))) (u:=(sb (u.getD k default) ((dq*y.getD k default+c)%4294967296))%4294967296) (i:=(k:Int)) eR rfl rfl rfl rfl rfl hu (k) oM oM) ?_
  rintro w72 ⟨ha73,hx74⟩
  have hx74z:=hx74.size
  replace hy:=hy.tr (hu.sm hx74 (by exact hDy _))
  replace hX:=hX.trans hx74
  replace hu:=ha73
  refine aE (cV (mV (v:=(.int .u64 ((((dq*y.getD k default+c):Nat):Int)))) rfl (rV (tU (k:=.u64) (a:=(((dq*y.getD k default+c):Nat):Int)) (b:=32) (c:=(((dq*y.getD k default+c)/4294967296:Nat):Int)) rfl rfl dC (shr32 _)) (mV (v:=(.int .u64 ((((sb (u.getD k default) ((dq*y.getD k default+c)%4294967296)):Nat):Int)))) rfl (rV (tU (k:=.u64) (a:=(((sb (u.getD k default) ((dq*y.getD k default+c)%4294967296)):Nat):Int)) (b:=63) (c:=(((sb (u.getD k default) ((dq*y.getD k default+c)%4294967296))/9223372036854775808:Nat):Int)) rfl rfl dC (aXv _)) (rV (kE (k:=.u64) (a:=(((dq*y.getD k default+c)/4294967296:Nat):Int)) (b:=(((sb (u.getD k default) ((dq*y.getD k default+c)%4294967296))/9223372036854775808:Nat):Int)) (c:=(((dq*y.getD k default+c)/4294967296+(sb (u.getD k default) ((dq*y.getD k default+c)%4294967296))/9223372036854775808:Nat):Int)) rfl rfl ((iV (by have:=hmc.2;omega)).trans oM)) (aS (v:=(.int .u64 ((((dq*y.getD k default+c)/4294967296+(sb (u.getD k default) ((dq*y.getD k default+c)%4294967296))/9223372036854775808:Nat):Int)))) rfl (aE (cV (rV (kE (k:=.i64) (a:=(k:Int)) (b:=1) (c:=(k:Int)+1) hs63 rfl (jS oM)) (mV (v:=(iv ((k:Int)+1))) rfl (aE ?_))))))))))))
  refine⟨(k+1,(dq*y.getD k default+c)/4294967296+(sb (u.getD k default) ((dq*y.getD k default+c)%4294967296))/9223372036854775808,P++[(sb (u.getD k default) ((dq*y.getD k default+c)%4294967296))%4294967296]),⟨?_,?_,?_,?_,?_,?_,?_,?_,?_,?_,?_⟩,?_⟩
  ·exact(by repeat (first|exact G62|refine Off.st ?_ dC _|refine Off.via G56 dC ?_|refine Off.eq hF23 ?_))
  ·first|rfl|exact cQ oM|exact aW (by simp)
  ·first|rfl|exact cQ oM|exact aW (by simp)
  ·omega
  ·rw[aP,hP];rfl
  ·exact hLm.snoc (dM _ dC)
  ·exact hmc.2
  ·rw[eM (xs:=y) hkl,eM (xs:=u) oM];exact bGy hP hms huk
  ·rw[aBl hP oM] at hu;exact hu
  ·exact hy
  ·exact hX
  (try dsimp only)
  omega
 refine nG ?_
 refine dV ?_
 have hkn:k=y.length:=by omega
 have hPn:P.length=y.length:=by omega
 have hsl:=aOr bun hc
 have hms2:val P+dq*val y=val (u.take y.length)+4294967296^y.length*c:=by rw[hkn,bU (aI y.length)] at hms;exact hms
 have huv:val u=val (u.take y.length)+4294967296^y.length*un:=by have h9:=eM (xs:=u) (k:=y.length) oM;rw[bU oM] at h9;rw[hun];exact h9
 refine cV (mV (v:=(.slice (some ⟨b,pre.length,none⟩) (y.length+1) (cap))) ((G62 0 rfl).trans ((hF59 0).trans ((G56 0 rfl).trans ((hF23 0).trans (hF0 0))))) (mV (v:=(iv (y.length:Nat))) ((G62 5 rfl).trans ((hF59 5).trans ((G56 5 rfl).trans (hF23 5)))) (rV (cA (i:=((y.length:Nat):Int)) eC eR rfl rfl oM oM) ?_)))
 have hc75:=hu.cell (i:=((y.length:Nat):Int)) (y.length) oM oM
 rw[show(P++u.drop k).getD (y.length) default=un from (by rw[hkn,aEt hPn];exact hun.symm)] at hc75
 refine rV (dJ (v:=(.int .u32 (un:Int))) eS kH rfl hc75) (rV (fE (k:=.u64) (a:=(un:Int)) (c:=(un:Int)) eS jE rfl (iV oM)) (mV hs64 (rV (lT (k:=.u64) (a:=(un:Int)) (b:=(c:Int)) (c:=(((sb un c):Nat):Int)) rfl rfl (wsb oM oM)) (aS (v:=(.int .u64 ((((sb un c):Nat):Int)))) rfl (aE (wsr (mV (v:=(.slice (some ⟨b,pre.length,none⟩) (y.length+1) (cap))) ((G62 0 rfl).trans ((hF59 0).trans ((G56 0 rfl).trans ((hF23 0).trans (hF0 0))))) (mV (v:=(iv (y.length:Nat))) ((G62 5 rfl).trans ((hF59 5).trans ((G56 5 rfl).trans (hF23 5)))) (mV (v:=(.int .u64 ((((sb un c):Nat):Int)))) rfl (rV (fE (k:=.u32) (a:=(((sb un c):Nat):Int)) (c:=(((sb un c)%4294967296:Nat):Int)) jE eS rfl (cu32 _)) (rV (cA (i:=((y.length:Nat):Int)) eC eR rfl rfl oM oM) ?_)))))))))))
 refine fC rfl rfl (aJm (g:=(gN .u32)) (vv:=(.int .u32 ((((sb un c)%4294967296:Nat):Int)))) (u:=(sb un c)%4294967296) (i:=((y.length:Nat):Int)) eR rfl rfl rfl rfl rfl hu (y.length) oM oM) ?_
 rintro w76 ⟨ha77,hx78⟩
 have hx78z:=hx78.size
 replace hy:=hy.tr (hu.sm hx78 (by exact hDy _))
 replace hX:=hX.trans hx78
 replace hu:=ha77
 refine aE (dV (dV ?_))
 have hl1:(P++u.drop k).set y.length ((sb un c)%4294967296)=P++[(sb un c)%4294967296]:=by rw[hkn,aBl hPn oM,cB oM,gB]
 refine cV (mV (v:=(.int .u64 ((((sb un c):Nat):Int)))) rfl (rV (tU (k:=.u64) (a:=(((sb un c):Nat):Int)) (b:=63) (c:=(((sb un c)/9223372036854775808:Nat):Int)) rfl rfl dC (aXv _)) (rV (tA (k:=.u64) (a:=(((sb un c)/9223372036854775808:Nat):Int)) (b:=0) rfl rfl) (aE ?_))))
 refine wcD (p:=(((sb un c)/9223372036854775808:Nat):Int)=0) rfl (λhb79 hb79p=>?_) (λhb79 hb79p=>?_)
 ·have hd0:(sb un c)/9223372036854775808=0:=by have:=hb79p;omega
  refine dV ?_
  have hcu:c<=un:=hsl.2.2.1 hd0
  have hok:=bTn hK.pos hms2 huv hcu hq1
  have hsb2:(sb un c)%4294967296=un-c:=by have:=hsl.1;omega
  refine cV (mV (v:=(.int .u64 (dq:Int))) ((G62 7 rfl).trans ((hF59 7).trans hs57)) (rV (fE (k:=.u32) (a:=(dq:Int)) (c:=(dq:Int)) jE eS rfl (aOk oM)) (aS (v:=(.int .u32 (dq:Int))) rfl (aE ?_))))
  refine gH ?_
  refine⟨[(.int .u32 (dq:Int))],⟨rfl,trivial⟩,?_⟩
  refine⟨cQ (by rw[hok.1]),⟨_,hu,?_,?_⟩,hX⟩
  ·rw[hl1];exact hLm.snoc (dM _ dC)
  rw[hl1,mR,hPn,hsb2,<-hok.2]
 have hd0:(sb un c)/9223372036854775808≠0:=by have:=hb79p;omega
 refine fL ?_
 refine dV ?_
 have hcu:¬c<=un:=λh=>hd0 (hsl.2.2.2 h)
 have hPlt:=mJ hLm
 rw[hPn] at hPlt
 have hbk:=bGz hK.pos hms2 huv oM hq2 hPlt (mJ lmy)
 have hdq1:0<dq:=by rw[hbk.1];exact Nat.succ_pos _
 have hdd:(sb un c)%4294967296+1=4294967296:=by have:=hsl.1;have:=hsl.2.1;have:=hbk.2.1;omega
 refine cV (aS (v:=(.int .u64 0)) rfl (aE (dV (wsr (mV (v:=vy) ((G62 1 rfl).trans ((hF59 1).trans ((G56 1 rfl).trans ((hF23 1).trans (hF0 1))))) (rV (gX eC hv3) (mV (v:=(iv 0)) rfl (aE ?_))))))))
 refine gC ?_
 refine iU λF80 hF81=>?_
 refine oP (σ:=Nat×Nat×List Nat) (λ(s:Nat×Nat×List Nat) fl wl=>match s with|(k,c2,P2)=>Off (9::(rg 15 2 (rg 136 23 []))) F80 fl/\fl 136=(iv k)/\fl 9=(.int .u64 (c2:Int))/\(k<=y.length)/\(P2.length=k)/\(Lm P2)/\(c2<=1)/\(val P2+4294967296^k*c2=val (P.take k)+val (y.take k))/\(Ag (gN .u32) wl b 131 pre (P2++(P++[(sb un c)%4294967296]).drop k) post (y.length+1))/\(Sg (gN .u32) Dy wl vy y)/\(Exc b w wl)) (λ(s:Nat×Nat×List Nat)=>match s with|(k,c2,P2)=>y.length-k) (0,0,[]) ?_ ?_
 ·exact⟨Off.refl _ _,(hF81 136).trans (rfl),(hF81 9).trans (rfl),aF _,rfl,Lm.nil,aF _,(by simp[val]),(by rw[hl1] at hu;exact hu),hy,hX⟩
 clear hu hy hX
 rintro⟨k,c2,P2⟩ f82 w83 ⟨G84,hs85,hs86,hk,hP2,hP2m,hc2,hbs,hu,hy,hX⟩
 refine wsr (rV (mP (k:=.i64) (a:=(k:Int)) (b:=((y.length:Nat):Int)) hs85 ((G84 135 rfl).trans (hF81 135))) (aE (dV ?_)))
 refine wcD (p:=(k:Int)<((y.length:Nat):Int)) rfl (λhb87 hb87p=>?_) (λhb87 hb87p=>?_)
 ·refine fL ?_
  refine dV ?_
  refine gC ?_
  refine dV ?_
  have hkl:k<y.length:=by omega
  have hvk:=lmy.at hkl
  have hpk:=hLm.at (k:=k) oM
  have hgk:(P2++(P++[(sb un c)%4294967296]).drop k).getD k default=P.getD k default:=by rw[aEt hP2,bF,bW oM,<-bF]
  refine cV (mV hs85 ?_)
  obtain⟨b88,o89,c90,hv91,hc92⟩:=hy.ix (i:=(k:Int)) (k) oM oM
  refine rV (cA (i:=(k:Int)) eC eR ((((G84 134 rfl).trans (hF81 134))).trans hv91) hs85 oM oM) (rV (dJ (v:=(.int .u32 (((y.getD (k) default:Nat):Int)))) eS kH rfl hc92) (aS (v:=(iv k)) rfl (aS (v:=(.int .u32 (((y.getD (k) default:Nat):Int)))) rfl (aE (wsr (mV hs86 (mV (v:=(.slice (some ⟨b,pre.length,none⟩) (y.length+1) (cap))) ((G84 0 rfl).trans ((hF81 0).trans ((G62 0 rfl).trans ((hF59 0).trans ((G56 0 rfl).trans ((hF23 0).trans (hF0 0))))))) (mV (v:=(iv k)) rfl (rV (cA (i:=(k:Int)) eC eR rfl rfl oM oM) ?_)))))))))
  have hc93:=hu.cell (i:=(k:Int)) (k) oM oM
  rw[show(P2++(P++[(sb un c)%4294967296]).drop k).getD (k) default=P.getD k default from hgk] at hc93
  refine rV (dJ (v:=(.int .u32 (((P.getD k default:Nat):Int)))) eS kH rfl hc93) (rV (fE (k:=.u64) (a:=((P.getD k default:Nat):Int)) (c:=((P.getD k default:Nat):Int)) eS jE rfl (iV oM)) (mV (v:=(.int .u32 (((y.getD (k) default:Nat):Int)))) rfl (rV (fE (k:=.u64) (a:=((y.getD (k) default:Nat):Int)) (c:=((y.getD (k) default:Nat):Int)) eS jE rfl (iV oM)) (rV (kE (k:=.u64) (a:=((P.getD k default:Nat):Int)) (b:=((y.getD (k) default:Nat):Int)) (c:=((P.getD k default+y.getD k default:Nat):Int)) rfl rfl ((iV oM).trans oM)) (rV (kE (k:=.u64) (a:=(c2:Int)) (b:=((P.getD k default+y.getD k default:Nat):Int)) (c:=((c2+(P.getD k default+y.getD k default):Nat):Int)) rfl rfl ((iV oM).trans oM)) (aS (v:=(.int .u64 (((c2+(P.getD k default+y.getD k default):Nat):Int)))) rfl (aE (wsr (mV (v:=(.slice (some ⟨b,pre.length,none⟩) (y.length+1) (cap))) ((G84 0 rfl).trans ((hF81 0).trans ((G62 0 rfl).trans ((hF59 0).trans ((G56 0 rfl).trans ((hF23 0).trans (hF0 0))))))) (mV (v:=(iv k)) rfl (mV (v:=(.int .u64 (((c2+(P.getD k default+y.getD k default):Nat):Int)))) rfl (rV (fE (k:=.u32) (a:=((c2+(P.getD k default+y.getD k default):Nat):Int)) (c:=(((c2+(P.getD k default+y.getD k default))%4294967296:Nat):Int)) jE eS rfl (cu32 _)) (rV (cA (i:=(k:Int)) eC eR rfl rfl oM oM) ?_)))))))))))))
  refine fC rfl rfl (aJm (g:=(gN .u32)) (vv:=(.int .u32 ((((c2+(P.getD k default+y.getD k default))%4294967296:Nat):Int)))) (u:=(c2+(P.getD k default+y.getD k default))%4294967296) (i:=(k:Int)) eR rfl rfl rfl rfl rfl hu (k) oM oM) ?_
  rintro w94 ⟨ha95,hx96⟩
  have hx96z:=hx96.size
  replace hy:=hy.tr (hu.sm hx96 (by exact hDy _))
  replace hX:=hX.trans hx96
  replace hu:=ha95
  refine aE (cV (mV (v:=(.int .u64 (((c2+(P.getD k default+y.getD k default):Nat):Int)))) rfl (rV (tU (k:=.u64) (a:=((c2+(P.getD k default+y.getD k default):Nat):Int)) (b:=32) (c:=(((c2+(P.getD k default+y.getD k default))/4294967296:Nat):Int)) rfl rfl dC (shr32 _)) (aS (v:=(.int .u64 ((((c2+(P.getD k default+y.getD k default))/4294967296:Nat):Int)))) rfl (aE (cV (rV (kE (k:=.i64) (a:=(k:Int)) (b:=1) (c:=(k:Int)+1) hs85 rfl (jS oM)) (mV (v:=(iv ((k:Int)+1))) rfl (aE ?_)))))))))
  refine⟨(k+1,(c2+(P.getD k default+y.getD k default))/4294967296,P2++[(c2+(P.getD k default+y.getD k default))%4294967296]),⟨?_,?_,?_,?_,?_,?_,?_,?_,?_,?_,?_⟩,?_⟩
  ·exact(by repeat (first|exact G84|refine Off.st ?_ dC _|refine Off.via G62 dC ?_|refine Off.eq hF59 ?_|refine Off.via G56 dC ?_|refine Off.eq hF23 ?_))
  ·first|rfl|exact cQ oM|exact aW (by simp)
  ·first|rfl|exact cQ oM|exact aW (by simp)
  ·omega
  ·rw[aP,hP2];rfl
  ·exact hP2m.snoc (dM _ dC)
  ·omega
  ·rw[eM (xs:=y) hkl,eM (xs:=P) oM];exact aVh hP2 hbs
  ·rw[aBl hP2 (by rw[aP,hPn];simp;omega)] at hu;exact hu
  ·exact hy
  ·exact hX
  (try dsimp only)
  omega
 refine nG ?_
 refine dV ?_
 have hkn2:k=y.length:=by omega
 have hbf:=aXs oM hP2m (by rw[hkn2,bU oM,bU (aI _)] at hbs;exact hbs) hbk.2.2 (aY (dM _ hK.pos) (mJ lmy))
 have hgn:(P2++(P++[(sb un c)%4294967296]).drop k).getD y.length default=(sb un c)%4294967296:=aXx oM hPn hkn2
 refine cV (mV (v:=(.slice (some ⟨b,pre.length,none⟩) (y.length+1) (cap))) ((G84 0 rfl).trans ((hF81 0).trans ((G62 0 rfl).trans ((hF59 0).trans ((G56 0 rfl).trans ((hF23 0).trans (hF0 0))))))) (mV (v:=(iv (y.length:Nat))) ((G84 5 rfl).trans ((hF81 5).trans ((G62 5 rfl).trans ((hF59 5).trans ((G56 5 rfl).trans (hF23 5)))))) (rV (cA (i:=((y.length:Nat):Int)) eC eR rfl rfl oM oM) ?_)))
 have hc97:=hu.cell (i:=((y.length:Nat):Int)) (y.length) oM oM
 rw[show(P2++(P++[(sb un c)%4294967296]).drop k).getD (y.length) default=(sb un c)%4294967296 from hgn] at hc97
 refine rV (dJ (v:=(.int .u32 ((((sb un c)%4294967296:Nat):Int)))) eS kH rfl hc97) (mV hs86 (rV (fE (k:=.u32) (a:=(c2:Int)) (c:=1) jE eS rfl ((aOk (by have:=hbf.1;omega)).trans (by have:=hbf.1;omega))) (rV (kE (k:=.u32) (a:=(((sb un c)%4294967296:Nat):Int)) (b:=1) (c:=((0:Nat):Int)) rfl rfl (aVl hdd)) (rV (cA (i:=((y.length:Nat):Int)) eC eR rfl rfl oM oM) ?_))))
 refine fC rfl rfl (aJm (g:=(gN .u32)) (vv:=(.int .u32 (((0:Nat):Int)))) (u:=0) (i:=((y.length:Nat):Int)) eR rfl rfl rfl rfl rfl hu (y.length) oM oM) ?_
 rintro w98 ⟨ha99,hx100⟩
 have hx100z:=hx100.size
 replace hX:=hX.trans hx100
 replace hu:=ha99
 refine aE (dV ?_)
 have hl0:(P2++(P++[(sb un c)%4294967296]).drop k).set y.length 0=P2++[0]:=by rw[hkn2,aBl oM (by rw[aP,hPn];simp),cB (by rw[aP,hPn];simp),gB]
 refine cV (mV (v:=(.int .u64 (dq:Int))) ((G84 7 rfl).trans ((hF81 7).trans ((G62 7 rfl).trans ((hF59 7).trans hs57)))) (rV (lT (k:=.u64) (a:=(dq:Int)) (b:=1) (c:=((dq-1:Nat):Int)) rfl rfl ((iV oM).trans oM)) (rV (fE (k:=.u32) (a:=((dq-1:Nat):Int)) (c:=((dq-1:Nat):Int)) jE eS rfl (aOk oM)) (aS (v:=(.int .u32 (((dq-1:Nat):Int)))) rfl (aE ?_)))))
 refine gH ?_
 refine⟨[(.int .u32 (((dq-1:Nat):Int)))],⟨rfl,trivial⟩,?_⟩
 refine⟨cQ (by rw[hbk.1,gL]),⟨_,hu,?_,?_⟩,hX⟩
 ·rw[hl0];exact hP2m.snoc dC
 rw[hl0,mR,hbf.2];simp
end Go.Proofs.YtlhdigjbokkbiaaGreat.W
namespace Go.Proofs.YtlhdigjbokkbiaaGreat.W
open Go.Vg Go.RowKit Go.Shelf _root_.Go.Proofs.Tryz
def rho:Ren:=⟨λn=>if n=128 then 165 else if n=133 then 172 else 0,λn=>if n=3 then 3 else if n=4 then 4 else if n=5 then 5 else if n=9 then 9 else if n=46 then 161 else if n=51 then 131 else 0,λx=>x⟩
theorem bHd:Lays.n133 Tryz.prog rho:=by
 constructor<;>first|kernel_rfl|(intro w;kernel_rfl)
theorem aSf:∀(f x:Nat),x<2^f->f<=64->x≠0->1<=Lib.bitLen x/\2^(Lib.bitLen x-1)<=x/\x<2^Lib.bitLen x
 |0,x,h,_,h0=>by simp at h;exact absurd h h0
 |f+1,x,h,hf,h0=>by
  have h64:x<2^64:=bH h (fN dC hf)
  rw[Lib.bitLen_half x h0 h64]
  by_cases h1:x/2=0
  ·have hx1:x=1:=by omega
   subst hx1
   decide
  have h2:x/2<2^f:=by rw[eZ] at h;omega
  obtain⟨g1,g2,g3⟩:=aSf f (x/2) h2 oM h1
  refine⟨by omega,?_,?_⟩
  ·have e:2^(1+Lib.bitLen (x/2)-1)=2^(Lib.bitLen (x/2)-1)*2:=by rw[<-eZ];congr 1;omega
   rw[e];omega
  rw[jY,eZ];omega
theorem aIm {x:Nat} (w:World) (h0:x≠0) (hx:x<4294967296):Calls Tryz.prog 172 #[.int .u32 (x:Int)] w λe w'=>∃v,e= .returned v/\(∃s:Nat,v= .int .i64 (s:Int)/\s<=31/\2147483648<=x*2^s/\x*2^s<4294967296)/\w=w':=by
 refine(Any.bits_LeadingZeros32 bHd (x:Int) w oM oM).mono ?_
 rintro e w' ⟨rfl,rfl⟩
 obtain⟨g1,g2,g3⟩:=aSf 32 x hx dC h0
 rw[bP]
 have hb:Lib.bitLen x<=32:=by
  have h:2^(Lib.bitLen x-1)<2^32:=gM g2 hx
  have:=(Nat.pow_lt_pow_iff_right dC).1 h
  omega
 refine⟨_,rfl,⟨32-Lib.bitLen x,by congr 1;omega,by omega,?_,?_⟩,rfl⟩
 ·have e:(2147483648:Nat)=2^(Lib.bitLen x-1)*2^(32-Lib.bitLen x):=by rw[<-kB,show Lib.bitLen x-1+(32-Lib.bitLen x)=31 by omega]
  rw[e];exact bK _ g2
 have e:(4294967296:Nat)=2^Lib.bitLen x*2^(32-Lib.bitLen x):=by rw[<-kB,show Lib.bitLen x+(32-Lib.bitLen x)=32 by omega]
 rw[e];exact lI g3 (jC dC)
end Go.Proofs.YtlhdigjbokkbiaaGreat.W
namespace Go.Vm
theorem aOs {a m n s V:Nat} {U:List Nat} (hl:U.length=m+1) (hU:Lm U) (hv:val U=a*2^s) (ha:a<4294967296^m) (hs:s<=31) (hn:n<=m) (h1:1<=n) (hV:2147483648*4294967296^(n-1)<=V):val (U.drop (m+1-n))<V:=by
 have hd:=tG hU (m+1-n)
 rw[<-hd,hv]
 refine bH ?_ hV
 refine(jD (jC dC)).2 ?_
 have e:4294967296^(n-1)*4294967296^(m+1-n)=4294967296^m:=by rw[<-kB];congr 1;omega
 rw[bQ,e,bO a]
 have h31:2^s<=2147483648:=bA (fN dC hs) dC
 exact bH (Nat.mul_lt_mul_of_pos_left ha (jC dC)) (bK _ h31)
theorem aXy {u:List Nat} {j n V:Nat} (lu:Lm u) (hl:j+n+1<=u.length) (hV:V<4294967296^n) (h:val (u.drop (j+1))<V):val ((u.drop j).take (n+1))<V*4294967296/\val (u.drop (j+(n+1)))=0:=by
 have h1:=vP (a:=u) (n:=j+1) (Nat.succ_pos _) oM
 rw[gL] at h1
 have hj:=lu.at (k:=j) oM
 have h2:=oF (u.drop j) (m:=n+1) (by rw[dP];omega)
 rw[zI] at h2
 have hlt:val (u.drop j)<V*4294967296:=by rw[h1];omega
 have hz:val (u.drop (j+(n+1)))=0:=by
  rcases dB (val (u.drop (j+(n+1)))) with h|h
  ·exact h
  have h3:4294967296^(n+1)<=4294967296^(n+1)*val (u.drop (j+(n+1))):=gV _ h
  have h4:V*4294967296<4294967296^(n+1):=by rw[eZ];exact lI hV dC
  omega
 exact⟨by rw[hz,nV,jG] at h2;omega,hz⟩
theorem aVm {u mid Q:List Nat} {j n V A q:Nat} (hl:j+n+1<=u.length) (hm:mid.length=n+1) (hz:val (u.drop (j+(n+1)))=0) (hq:q=val ((u.drop j).take (n+1))/V) (hr:val mid=val ((u.drop j).take (n+1))%V) (hV:0<V)
 (h:A=val u+V*(4294967296^(j+1)*val Q)):A=val (u.take j++mid++u.drop (j+(n+1)))+V*(4294967296^j*val (q::Q))/\val ((u.take j++mid++u.drop (j+(n+1))).drop j)<V/\(u.take j++mid++u.drop (j+(n+1))).length=u.length:=by
 have htl:(u.take j).length=j:=by rw[cC];omega
 have e1:val (u.take j++mid++u.drop (j+(n+1)))=val (u.take j)+4294967296^j*val mid:=by
  rw[eF,oR,oR,hz,htl];simp
 have e2:val u=val (u.take j)+4294967296^j*val ((u.drop j).take (n+1)):=by
  have h2:=oF u (m:=j) oM
  have h3:=oF (u.drop j) (m:=n+1) (by rw[dP];omega)
  rw[zI,hz,nV,jG] at h3
  rw[h2,h3]
 have e3:val ((u.take j++mid++u.drop (j+(n+1))).drop j)=val mid:=by
  have h5:((u.take j++mid++u.drop (j+(n+1))).drop j)=mid++u.drop (j+(n+1)):=by
   rw[eF,jB oM,cB oM,kC]
  rw[h5,oR,hz];simp
 refine⟨?_,?_,?_⟩
 ·refine(aVi (A:=val u) (Q:=val Q) (low:=val (u.take j)) (W:=val ((u.drop j).take (n+1))) (W':=val mid) (V:=V) (j:=j) (q:=q) (B':=4294967296^j) ?_ rfl e2 e1 ?_).trans ?_
  ·rw[h,eZ,bQ (4294967296^j)]
  ·rw[hq,hr,bO];exact(iI _ _).symm
  rfl
 ·rw[e3,hr];exact dM _ hV
 simp only[aP,dP,htl,hm];omega
theorem aXz {a b s A V R Q:Nat} (hA:A=a*2^s) (hV:V=b*2^s) (h:A=R+V*Q) (hR:R<V):Q=a/b/\R/2^s=a%b:=by
 have hp:0<2^s:=jC dC
 have h1:=aJh (n:=A) (b:=V) (Qn:=Q) (r:=R) (by rw[h,bO];omega) hR
 refine⟨?_,?_⟩
 ·rw[h1.1,hA,hV,Nat.mul_div_mul_right _ _ hp]
 rw[h1.2,hA,hV,Nat.mul_mod_mul_right,Nat.mul_div_cancel _ hp]
theorem aYa {Y:List Nat} {V n s:Nat} (lY:Lm Y) (hs:s<=31) (hn:2<=n) (hl:Y.length=n) (hV:V=val Y*2^s) (h1:2147483648<=Y.getD (n-1) default*2^s) (h2:Y.getD (n-1) default*2^s<4294967296):2147483648*4294967296^(n-1)<=V/\V<4294967296^n:=by
 have e:=eM (xs:=Y) (k:=n-1) oM
 rw[show n-1+1=n by omega,bU oM] at e
 have hlt:=mJ (lY.take (n-1))
 rw[cC,show min (n-1) Y.length=n-1 by omega] at hlt
 have ep:4294967296^n=4294967296^(n-1)*4294967296:=by rw[<-eZ];congr 1;omega
 have ek:4294967296=2^(32-s)*2^s:=by rw[<-kB,show 32-s+s=32 by omega]
 have hk:0<2^s:=jC dC
 generalize Y.getD (n-1) default=t at*
 generalize val (Y.take (n-1))=lo at*
 have h3:(t+1)*2^s<=4294967296:=by
  rw[ek] at h2 ⊢
  exact bK _ (mG h2)
 clear ek
 generalize 4294967296^(n-1)=p at*
 generalize 2^s=k at*
 subst hV
 rw[e,ep]
 refine⟨?_,?_⟩
 ·have h4:=dZ p h1
  have h5:p*(t*k)<=(lo+p*t)*k:=by rw[dW,bQ];exact xS _ _
  rw[bO p] at h4
  exact bA h4 h5
 have h4:=dZ p h3
 refine bH ?_ h4
 rw[<-bQ,dN,dF]
 exact lI oM hk
theorem bHe {L:List Nat} {n:Nat} (hn:1<=n) (hl:L.length=n) (hL:Lm L) (h:2147483648*4294967296^(n-1)<=val L):2147483648<=L.getD (n-1) default:=by
 have e:=eM (xs:=L) (k:=n-1) oM
 rw[show n-1+1=n by omega,bU oM] at e
 have hlt:=mJ (hL.take (n-1))
 rw[cC,show min (n-1) L.length=n-1 by omega] at hlt
 rw[e] at h
 generalize 4294967296^(n-1)=p at*
 generalize L.getD (n-1) default=t at*
 rcases eY t 2147483648 with h6|h6
 ·have h7:p*(t+1)<=p*2147483648:=dZ p h6
  rw[dN,dF] at h7
  omega
 exact h6
theorem aMo {L:List Nat} {n:Nat} (hl:n<=L.length) (h:val L<4294967296^n):val (L.take n)=val L:=by
 have e:=oF L hl
 rcases dB (val (L.drop n)) with h0|h0
 ·rw[h0] at e;omega
 have:=gV (4294967296^n) h0;omega
end Go.Vm
namespace Go.Vg
open Go Go.RowKit Go.Vm
def Osl {α:Type} (c:α->List Value) (size:Nat) (w:World) (lo:Nat) (T:TypeId) (v:Value) (xs:List α):Prop:=
 ((∀x,(c x).length=size)/\0<size)/\Ow w lo T size v xs.length (xs.map c).flatten
section
variable {α:Type} {c:α->List Value} {size:Nat} {D:Nat->TypeId->Prop} {w w':World} {lo b cap:Nat} {T:TypeId} {v:Value} {xs:List α}
theorem Osl.ext (h:Osl c size w lo T v xs) (e:Ext w w'):Osl c size w' lo T v xs:=⟨h.1,h.2.ext e⟩
theorem Osl.lt (h:Osl c size w lo T v xs) (b:Nat) (hb:v.ownBlock=some b):b<w.heap.size:=(World.ownsRow.lt h.2 b hb).2
theorem Osl.ss (h:Osl c size w lo T v xs) (hD:∀b,lo<=b->D b T):Ss c size D w v xs:=h.2.ss rfl rfl h.1.2 (λx _=>h.1.1 x) hD
theorem Osl.at (h:Osl c size w lo T v xs) (k:Nat) (hk:k<xs.length):∃b cap,v= .slice (some ⟨b,0,none⟩) xs.length cap/\lo<=b:=by
 rcases h.2.2 with ⟨_,h0⟩|⟨b,cap,cur,rfl,hb,_⟩
 ·omega
 exact⟨b,cap,rfl,hb⟩
end
end Go.Vg
namespace Go.Vg
open Go Go.RowKit Go.Vm
section
variable {α:Type} {g:α->Value} {w:World} {b m:Nat} {T:TypeId} {u:List α}
theorem Ar.win (h:Ar g w b T 0 u m) (j k:Nat) (hjk:j+k<=m):∃pre post,pre.length=j/\Ag g w b T pre ((u.drop j).take k) post k/\∀w' mid,Ag g w' b T pre mid post k->Ar g w' b T 0 (u.take j++mid++u.drop (j+k)) m:=by
 obtain⟨⟨pre,post,h1,h2⟩,h3⟩:=h
 have hp0:pre=[]:=bX h1
 subst hp0
 refine⟨(u.take j).map g,(u.drop (j+k)).map g++post,by simp;omega,⟨?_,by simp;omega⟩,?_⟩
 ·have e:u.map g=(u.take j).map g++(((u.drop j).take k).map g++(u.drop (j+k)).map g):=by
   rw[<-dI,<-dI,<-zI,fG,fG]
  rw[e] at h2
  simpa[eF] using h2
 rintro w' mid ⟨h4,h5⟩
 refine⟨⟨[],post,rfl,?_⟩,by simp;omega⟩
 simpa[eF] using h4
end
section
variable {P:Program} {f:Nat->Value} {w:World} {dst:Option Tmp} {ty:TypeId} {pos:String} {aft:Array Edge} {gd:Option (Nat×Bool)} {x y z:Operand} {t e:TypeId}
theorem bMz {k k':IntKind} {b n c j m bytes:Nat} {l h:Int} {zz:Value} (hu:P.underlying t=some (.slice e)) (ht:TyI P e 1 bytes zz) (hx:ev f x= .slice (some ⟨b,0,none⟩) n c) (hy:ev f y= .int k l) (hz:ev f z= .int k' h) (hl:l=(j:Int)) (hh:h=((j+m:Nat):Int)) (hm:0<m) (hc:j+m<=c):
 (execOp (ev f) ⟨dst,.slice t x (some y) (some z) none,ty,pos,aft,gd⟩).run P w= .ok (.value (.slice (some ⟨b,j,none⟩) m (c-j))) w:=by
 have h2:=aOl (P:=P) (f:=f) (w:=w) (dst:=dst) (ty:=ty) (pos:=pos) (aft:=aft) (g:=gd) hu ht hx hy hz oM oM oM
 rw[hl,hh,bP,bP,if_neg oM,nM] at h2
 simpa[iA] using h2
end
end Go.Vg
namespace Go.Proofs.YtlhdigjbokkbiaaGreat.W
open Go.Vg Go.RowKit _root_.Go.Proofs.Tryz
open Go.Vm
theorem bNa {w:World} {Dx:Nat->TypeId->Prop} {vx:Value} {x:List Nat} (hx0:Sg (gN .u32) Dx w vx x) (lmx:Lm x) (lnx:x.length<=1099511627776) {Dy:Nat->TypeId->Prop} {vy:Value} {y:List Nat} (hy0:Sg (gN .u32) Dy w vy y) (lmy:Lm y) (lny:y.length<=1099511627776) (hn2:2<=y.length) (htz:y.getD (y.length-1) default≠0) (hyx:y.length<=x.length):
 Calls Tryz.prog 152 #[vx,vy] w λe w'=>∃v,e= .returned v/\(∃vq vr,v= .tuple #[vq,vr]/\Sg (gN .u32) (λb T=>w.heap.size<=b/\T=131) w' vq (aJ (val x/val y))/\Sg (gN .u32) (λb T=>w.heap.size<=b/\T=131) w' vr (aJ (val x%val y)))/\Ext w w':=by
 have hE:Below w.heap.size w w:=Below.refl _ _
 have hx:=hx0.old
 clear hx0
 have hy:=hy0.old
 clear hy0
 have hlvx:=eO lmx
 have hlvy:=eO lmy
 refine eE (n:=67) (rs:=[.tmp 4,.tmp 5]) func152 rfl rfl rfl bL ?_
 refine iU λF0 hF0=>?_
 refine wsr (aS (v:=(.slice none (0) (0))) rfl (aS (v:=(.slice none (0) (0))) rfl (aE (wsr (mV (v:=vy) (hF0 1) ?_)))))
 obtain⟨A1,c2,hv3,hc4,hc5⟩:=hy.len
 refine rV (gX eC hv3) (aS (v:=(iv (y.length:Nat))) rfl (aE (dV ?_)))
 have htl:=lmy.at (k:=y.length-1) oM
 refine cV (mV (v:=vy) (hF0 1) (mV (v:=(iv (y.length:Nat))) rfl (rV (lT (k:=.i64) (a:=((y.length:Nat):Int)) (b:=1) (c:=((y.length:Nat):Int)-1) rfl rfl (jS oM)) ?_)))
 obtain⟨b6,o7,c8,hv9,hc10⟩:=hy.ix (i:=((y.length:Nat):Int)-1) (y.length-1) oM oM
 refine rV (cA (i:=((y.length:Nat):Int)-1) eC eR hv9 rfl oM oM) (rV (dJ (v:=(.int .u32 (((y.getD (y.length-1) default:Nat):Int)))) eS kH rfl hc10) ?_)
 refine cL aXj (aIm (x:=y.getD (y.length-1) default) _ htz htl) rfl ?_
 rintro _ _ ⟨⟨sh,rfl,hs,hz1,hz2⟩,rfl⟩
 refine aS (v:=(iv sh)) rfl (aE (wsr (mV (v:=vy) (hF0 1) (mV (v:=(iv sh)) rfl ?_))))
 refine cL aXl (aIl hy (by assumption) oS hs) rfl ?_
 rintro vv21 w12 ⟨⟨b14,L15,hvv20,gr19,hb16,lm17,hvl18⟩,he13⟩
 have ge_b14:=bA hE.size gr19
 subst hvv20
 replace hE:=hE.nx he13
 refine mV (v:=(iv (y.length:Nat))) rfl ?_
 have hLl:L15.length=y.length+1:=hb16.2
 have hV:=(hb16.sc (D:=(λb _=>b=b14)) (aI _) oM rfl).take (y.length) oM rfl
 have hVb:=aYa lmy hs hn2 rfl rfl hz1 hz2
 have hLvv:val (L15.take y.length)=val y*2^sh:=by rw[aMo oM (by rw[hvl18];exact hVb.2)];exact hvl18
 have lmv:=lm17.take y.length
 obtain⟨Lv,hLv⟩:∃l,l=L15.take y.length:=⟨_,rfl⟩
 rw[<-hLv] at hV hLvv lmv
 have hLvl:Lv.length=y.length:=by rw[hLv,cC];omega
 rw[<-hLvv,<-hLvl] at hVb
 have htopv:=bHe oM rfl lmv hVb.1
 refine rV (bGn (h:=((y.length:Nat):Int)) (kk:=y.length) eC eR rfl rfl rfl oM) (aS (v:=(.slice (some ⟨b14,0,none⟩) (y.length) (y.length+1))) rfl (aE (wsr (mV (v:=vx) (hF0 0) (mV (v:=(iv sh)) rfl ?_)))))
 replace hx:=hx.tr (aH he13)
 refine cL aXl (aIl hx (by assumption) oS hs) rfl ?_
 rintro vv31 w22 ⟨⟨b24,L25,hvv30,gr29,hb26,lm27,hvl28⟩,he23⟩
 have lt_b14_b24:=bH hb16.lt gr29
 have ge_b24:=bA hE.size gr29
 subst hvv30
 replace hE:=hE.nx he23
 refine aS (v:=(.slice (some ⟨b24,0,none⟩) (x.length+1) (x.length+1))) rfl (aE (dV ?_))
 obtain⟨dg,hdg⟩:∃d,d+y.length=x.length+1:=⟨x.length+1-y.length,by omega⟩
 have hVp:0<val Lv:=bH (mW dC (jC dC)) hVb.1
 refine cV (mV (v:=(.slice (some ⟨b24,0,none⟩) (x.length+1) (x.length+1))) rfl (rV (gX eC rfl) (mV (v:=(iv (y.length:Nat))) rfl (rV (lT (k:=.i64) (a:=((x.length+1:Nat):Int)) (b:=((y.length:Nat):Int)) (c:=(dg:Int)) rfl rfl ((jS oM).trans oM)) (aS (v:=(iv dg)) rfl (aE (wsr (mV (v:=(iv dg)) rfl ?_))))))))
 have hn37:((dg:Int):Int)=(dg:Int):=by omega
 refine rU (uS (n:=dg) eC eR rfl (cQ hn37) (cQ hn37) oM oM) ?_
 rintro _ w32 ⟨b33,rfl,hs36,hb35,he34⟩
 have lt_b24_b33:=cG hb26.lt hs36.symm
 have ge_b33:=hE.ge hs36
 replace hE:=hE.nx he34
 replace hb35:=Ar.made (g:=(gN .u32)) (z:=(0:Nat)) hb35 rfl
 have hb35l:=hb35.lt
 refine aS (v:=(.slice (some ⟨b33,0,none⟩) (dg) (dg))) rfl (aE (dV (wsr (mV (v:=(iv dg)) rfl (mV (v:=(iv 0)) rfl (aE ?_))))))
 refine gC ?_
 refine iU λF38 hF39=>?_
 refine oP (σ:=Nat×List Nat×List Nat) (λ(s:Nat×List Nat×List Nat) fl wl=>match s with|(k,u,Q)=>Off (rg 11 2 (rg 36 20 [])) F38 fl/\fl 36=(iv k)/\(k<=dg)/\(u.length=x.length+1)/\(Lm u)/\(Q.length=k)/\(Lm Q)/\(val x*2^sh=val u+val Lv*(4294967296^(dg-k)*val Q))/\(val (u.drop (dg-k))<val Lv)/\(Ar (gN .u32) wl b24 131 0 u (x.length+1))/\(Ar (gN .u32) wl b33 131 0 (List.replicate (dg-k) 0++Q) dg)/\(Sg (gN .u32) (λb T=>Dx b T/\b<w.heap.size) wl vx x)/\(Sg (gN .u32) (λb T=>Dy b T/\b<w.heap.size) wl vy y)/\(Below w.heap.size w wl)/\(Ar (gN .u32) wl b14 131 0 L15 (y.length+1))/\(Sg (gN .u32) (λb _=>b=b14) wl (.slice (some ⟨b14,0,none⟩) (y.length) (y.length+1)) Lv)) (λ(s:Nat×List Nat×List Nat)=>match s with|(k,u,Q)=>dg-k) (0,L25,[]) ?_ ?_
 ·replace hb26:=hb26.ext he34
  replace hx:=hx.tr (aH (aB he23 he34))
  have hm40:=aB he13 (aB he23 he34)
  replace hy:=hy.tr (aH hm40)
  replace hb16:=hb16.ext (aB he23 he34)
  replace hV:=hV.tr (aH (aB he23 he34))
  exact⟨Off.refl _ _,(hF39 36).trans (rfl),aF _,hb26.2,lm27,rfl,Lm.nil,(by rw[hvl28];simp[val]),(by rw[Nat.sub_zero,show dg=x.length+1-Lv.length by omega];exact aOs hb26.2 lm27 hvl28 (mJ lmx) hs oM oM hVb.1),hb26,(by simpa using hb35),hx,hy,hE,hb16,hV⟩
 clear hx hy hE hb16 hV hb26 hb35
 rintro⟨k,u,Q⟩ f41 w42 ⟨G43,hs44,hk,hul,lmu,hQl,hQm,hinv,hrem,hb26,hb35,hx,hy,hE,hb16,hV⟩
 refine wsr (rV (mP (k:=.i64) (a:=(k:Int)) (b:=(dg:Int)) hs44 ((G43 35 rfl).trans (hF39 35))) (aE (dV ?_)))
 refine wcD (p:=(k:Int)<(dg:Int)) rfl (λhb45 hb45p=>?_) (λhb45 hb45p=>?_)
 ·refine fL ?_
  refine dV ?_
  refine gC ?_
  refine dV ?_
  obtain⟨j,hj⟩:∃j,dg-k=j+1:=⟨dg-k-1,by omega⟩
  have hj1:dg-(k+1)=j:=by omega
  rw[hj] at hinv hrem hb35
  refine cV (mV hs44 (aS (v:=(iv k)) rfl (aE (wsr (mV (v:=(iv dg)) ((G43 10 rfl).trans (hF39 10)) (rV (lT (k:=.i64) (a:=(dg:Int)) (b:=1) (c:=(dg:Int)-1) rfl rfl (jS oM)) (mV (v:=(iv k)) rfl (rV (lT (k:=.i64) (a:=(dg:Int)-1) (b:=(k:Int)) (c:=(j:Int)) rfl rfl ((jS oM).trans oM)) (aS (v:=(iv j)) rfl (aE (cV (mV (v:=(.slice (some ⟨b33,0,none⟩) (dg) (dg))) ((G43 4 rfl).trans (hF39 4)) (mV (v:=(iv j)) rfl (mV (v:=(.slice (some ⟨b24,0,none⟩) (x.length+1) (x.length+1))) ((G43 9 rfl).trans (hF39 9)) (mV (v:=(iv j)) rfl (mV (v:=(iv j)) rfl (mV (v:=(iv (y.length:Nat))) ((G43 6 rfl).trans (hF39 6)) (rV (kE (k:=.i64) (a:=(j:Int)) (b:=((y.length:Nat):Int)) (c:=(j:Int)+((y.length:Nat):Int)) rfl rfl (jS oM)) (rV (kE (k:=.i64) (a:=(j:Int)+((y.length:Nat):Int)) (b:=1) (c:=((j:Int)+((y.length:Nat):Int))+1) rfl rfl (jS oM)) ?_)))))))))))))))))))
  obtain⟨pre,post,hpl,hAg,hback⟩:=hb26.win j (Lv.length+1) oM
  have hwin:=aXy lmu oM hVb.2 hrem
  refine rV (bMz (l:=(j:Int)) (h:=((j:Int)+((y.length:Nat):Int))+1) (j:=pre.length) (m:=Lv.length+1) eC eR rfl rfl rfl oM oM oM oM) (mV (v:=(.slice (some ⟨b14,0,none⟩) (y.length) (y.length+1))) ((G43 8 rfl).trans (hF39 8)) ?_)
  refine cL bMu (bMy (cap:=(x.length+1)-pre.length) hAg hV (λT h=>by have h:_=_:=h;omega) ((lmu.drop j).take _) lmv oM oM htopv hwin.1) rfl ?_
  rintro _ w46 ⟨rfl,⟨mid,hAgm,lmm,hmv⟩,hx47⟩
  replace hb26:=hback _ _ hAgm
  refine rV (cA (i:=(j:Int)) eC eR rfl rfl oM oM) ?_
  replace hb35:=hb35.exc hx47 (lJ lt_b24_b33)
  refine fC rfl rfl (aAg (g:=(gN .u32)) (vv:=(.int .u32 (((val ((u.drop j).take (Lv.length+1))/val Lv:Nat):Int)))) (u:=val ((u.drop j).take (Lv.length+1))/val Lv) (i:=(j:Int)) eR rfl rfl rfl rfl rfl hb35 (j) oM oM) ?_
  rintro w48 ⟨ha49,hx50⟩
  replace hE:=(hE.nb hx47 ge_b24).nb hx50 ge_b33
  replace hb35:=ha49
  refine aE ?_
  have hml:mid.length=Lv.length+1:=hAgm.2
  have hnx:=aVm (n:=Lv.length) (q:=val ((u.drop j).take (Lv.length+1))/val Lv) oM hml hwin.2 rfl hmv hVp hinv
  refine cV (rV (kE (k:=.i64) (a:=(k:Int)) (b:=1) (c:=(k:Int)+1) hs44 rfl (jS oM)) (mV (v:=(iv ((k:Int)+1))) rfl (aE ?_)))
  replace hb26:=hb26.exc hx50 (bR lt_b24_b33)
  replace hx:=(hx.tr (Sm.exc hx47 (λ_ _ _ _ hd=>absurd hd.2 (bS ge_b24)))).tr (Sm.exc hx50 (λ_ _ _ _ hd=>absurd hd.2 (bS ge_b33)))
  replace hy:=(hy.tr (Sm.exc hx47 (λ_ _ _ _ hd=>absurd hd.2 (bS ge_b24)))).tr (Sm.exc hx50 (λ_ _ _ _ hd=>absurd hd.2 (bS ge_b33)))
  replace hb16:=(hb16.exc hx47 (bR lt_b14_b24)).exc hx50 (bR (aY lt_b14_b24 lt_b24_b33))
  replace hV:=(hV.tr (Sm.exc hx47 (λ_ _ _ _=>by exact λhd=>by have hd:_=_:=hd;omega))).tr (Sm.exc hx50 (λ_ _ _ _=>by exact λhd=>by have hd:_=_:=hd;omega))
  refine⟨(k+1,(u.take j++mid++u.drop (j+(Lv.length+1))),val ((u.drop j).take (Lv.length+1))/val Lv::Q),⟨?_,?_,?_,?_,?_,?_,?_,?_,?_,?_,?_,?_,?_,?_,?_,?_⟩,?_⟩
  ·exact(by repeat (first|exact G43|refine Off.st ?_ dC _))
  ·first|rfl|exact cQ oM|exact aW (by simp)
  ·omega
  ·rw[hnx.2.2];exact hul
  ·exact((lmu.take _).append lmm).append (lmu.drop _)
  ·rw[eI,hQl]
  ·exact λz hz=>by rcases bJ.1 hz with rfl|hz;exact(jD hVp).2 (by rw[bO];exact hwin.1);exact hQm z hz
  ·rw[hj1];exact hnx.1
  ·rw[hj1];exact hnx.2.1
  ·exact hb26
  ·rw[hj1];rw[bTo] at hb35;exact hb35
  ·exact hx
  ·exact hy
  ·exact hE
  ·exact hb16
  ·exact hV
  (try dsimp only)
  omega
 refine nG ?_
 refine dV ?_
 have hk0:dg-k=0:=by omega
 rw[hk0,List.replicate_zero,kC] at hb35
 rw[hk0,tL,lN] at hinv
 rw[hk0,mF] at hrem
 have hfin:=aXz rfl hLvv hinv hrem
 have hut:val (u.take y.length)=val u:=aMo oM (by rw[<-hLvl];exact aY hrem hVb.2)
 refine cV (mV (v:=(.slice (some ⟨b24,0,none⟩) (x.length+1) (x.length+1))) ((G43 9 rfl).trans (hF39 9)) (mV (v:=(iv (y.length:Nat))) ((G43 6 rfl).trans (hF39 6)) ?_))
 have hU:=(hb26.sc (D:=(λb T=>w.heap.size<=b/\T=131)) (aI _) oM ⟨ge_b24,rfl⟩).take (y.length) oM rfl
 refine rV (bGn (h:=((y.length:Nat):Int)) (kk:=y.length) eC eR rfl rfl rfl oM) (mV (v:=(iv sh)) ((G43 7 rfl).trans (hF39 7)) ?_)
 refine cL bMv (bTt hU (lmu.take _) (by first|omega|(rw[cC];omega)) hs) rfl ?_
 rintro _ w51 ⟨⟨vr53,rfl,hr54⟩,he52⟩
 replace hr54:=hr54.fr hE
 replace hE:=hE.nx he52
 refine mV (v:=(.tuple #[vr53,(.bool true)])) rfl (rV (bZ (v:=vr53) rfl rfl) (rV (bZ (v:=(.bool true)) rfl rfl) (aS (v:=vr53) rfl (aE (wsr (mV (v:=(.slice (some ⟨b33,0,none⟩) (dg) (dg))) ((G43 4 rfl).trans (hF39 4)) ?_))))))
 replace hb35:=hb35.ext he52
 refine cL mK (pL (hb35.sc (D:=(λb T=>w.heap.size<=b/\T=131)) (aI _) oM ⟨ge_b33,rfl⟩) hQm (by first|omega|(simp;done)|(simp;omega))) rfl ?_
 rintro vr56 _ ⟨hr57,rfl⟩
 have hlv58:=eO (x:=Q) hQm
 refine mV (v:=vr53) rfl (aS (v:=vr56) rfl (aS (v:=vr53) rfl (aE ?_)))
 refine gH ?_
 refine⟨[vr56,vr53],⟨rfl,⟨rfl,trivial⟩⟩,?_⟩
 have h1:=hr57
 have h2:=hr54
 rw[hfin.1] at h1
 rw[hut,hfin.2] at h2
 exact⟨⟨_,_,rfl,h1,h2⟩,hE⟩
theorem aSg {n:Nat} (h:(aJ n).length=1):(aJ n).getD 0 default=n/\n<4294967296:=by
 have e:=cX n
 have hl:=cT n
 generalize aJ n=l at*
 match l,h with
 |[d],_=>
  have:=hl d (by simp)
  simp[val] at e
  exact⟨by simp[e],by omega⟩
theorem aYb {n:Nat} (h:0<(aJ n).length):(aJ n).getD ((aJ n).length-1) default≠0:=(bGo n).resolve_left oM
theorem yD {w:World} {Dx:Nat->TypeId->Prop} {vx:Value} {x:List Nat} (hx0:Sg (gN .u32) Dx w vx x) (lmx:Lm x) (lnx:x.length<=1099511627776) {Dy:Nat->TypeId->Prop} {vy:Value} {y:List Nat} (hy0:Sg (gN .u32) Dy w vy y) (lmy:Lm y) (lny:y.length<=1099511627776):
 Calls Tryz.prog 127 #[vx,vy] w λe w'=>∃v,e= .returned v/\(∃vq vr,v= .tuple #[vq,vr,.bool (decide (val y≠0))]/\Sg (gN .u32) (λb T=>w.heap.size<=b/\T=131) w' vq (aJ (val x/val y))/\Sg (gN .u32) (λb T=>w.heap.size<=b/\T=131) w' vr (aJ (vS (val x) (val y))))/\Ext w w':=by
 have hE:Below w.heap.size w w:=Below.refl _ _
 have hx:=hx0.old
 clear hx0
 have hy:=hy0.old
 clear hy0
 have hlvx:=eO lmx
 have hlvy:=eO lmy
 refine eE (n:=62) (rs:=[.tmp 4,.tmp 5,.tmp 6]) func127 rfl rfl rfl bL ?_
 refine iU λF0 hF0=>?_
 refine wsr (aS (v:=(.slice none (0) (0))) rfl (aS (v:=(.slice none (0) (0))) rfl (aS (v:=(.bool false)) rfl (aE (wsr (mV (v:=vx) (hF0 0) ?_))))))
 refine cL mK (pL hx (by assumption) (by first|omega|(simp;done)|(simp;omega))) rfl ?_
 rintro vr2 _ ⟨hr3,rfl⟩
 have hlv4:=eO (x:=x) (by assumption)
 refine mV (v:=vy) (hF0 1) ?_
 refine cL mK (pL hy (by assumption) (by first|omega|(simp;done)|(simp;omega))) rfl ?_
 rintro vr6 _ ⟨hr7,rfl⟩
 have hlv8:=eO (x:=y) (by assumption)
 refine aS (v:=vr2) rfl (aS (v:=vr6) rfl (aE (dV ?_)))
 refine gC ?_
 refine wsr (mV (v:=vr6) rfl ?_)
 obtain⟨A9,c10,hv11,hc12,hc13⟩:=hr7.len
 refine rV (gX eC hv11) (rV (tA (k:=.i64) (a:=(((aJ (val y)).length:Nat):Int)) (b:=0) rfl rfl) (aS (v:=(bd ((((aJ (val y)).length:Nat):Int)=0))) rfl (aE ?_)))
 refine wcD (p:=(((aJ (val y)).length:Nat):Int)=0) rfl (λhb14 hb14p=>?_) (λhb14 hb14p=>?_)
 ·refine wsr ?_
  refine aS (v:=(.slice none (0) (0))) rfl (aS (v:=(.slice none (0) (0))) rfl (aS (v:=(.bool false)) rfl (aE ?_)))
  refine gH ?_
  refine⟨[(.slice none (0) (0)),(.slice none (0) (0)),(.bool false)],⟨rfl,⟨rfl,⟨rfl,trivial⟩⟩⟩,?_⟩
  have hy0:val y=0:=kZ.1 (by unfold len;omega)
  rw[hy0]
  exact⟨⟨_,_,rfl,by rw[Nat.div_zero];exact Sg.nil,Sg.nil⟩,hE⟩
 have hy0:val y≠0:=λh=>by rw[h,rM] at hb14p;exact hb14p rfl
 refine wsr (mV (v:=vr2) rfl (mV (v:=vr6) rfl ?_))
 refine cL yC (qK hr3 (cT _) oS hr7 (cT _) oS) rfl ?_
 rintro vq18 w15 ⟨hq17,he16⟩
 simp only[cX] at hq17
 subst hq17
 replace hE:=hE.nx he16
 refine rV (mP (k:=.i64) (a:=cmpI (((val x):Nat):Int) (((val y):Nat):Int)) (b:=0) rfl rfl) (aS (v:=(bd ((cmpI (((val x):Nat):Int) (((val y):Nat):Int))<0))) rfl (aE ?_))
 refine wcD (p:=(cmpI (((val x):Nat):Int) (((val y):Nat):Int))<0) rfl (λhb19 hb19p=>?_) (λhb19 hb19p=>?_)
 ·have hlt:val x<val y:=by have:=cmpI_neg.1 hb19p;omega
  refine wsr (mV (v:=vr2) rfl ?_)
  replace hr3:=hr3.tr (aH he16)
  refine cL aJk (n_trim hr3 (cT _) oS) rfl ?_
  rintro vr22 w20 ⟨hr23,he21⟩
  try rw[cX] at hr23
  replace hr23:=hr23.fr hE
  replace hE:=hE.nx he21
  refine aS (v:=(.slice none (0) (0))) rfl (aS (v:=vr22) rfl (aS (v:=(.bool true)) rfl (aE ?_)))
  refine gH ?_
  refine⟨[(.slice none (0) (0)),vr22,(.bool true)],⟨rfl,⟨rfl,⟨rfl,trivial⟩⟩⟩,?_⟩
  exact⟨⟨_,_,by rw[decide_eq_true (show val y≠0 by omega)];rfl,by rw[jM hlt];exact Sg.nil,by rw[vS,if_neg oM,cW hlt];exact hr23⟩,hE⟩
 have hge:val y<=val x:=by rcases eY (val x) (val y) with h|h;exact absurd (cmpI_neg.2 oM) hb19p;exact h
 have hlen:(aJ (val y)).length<=(aJ (val x)).length:=gO hge
 refine wsr (mV (v:=vr2) rfl ?_)
 obtain⟨A24,c25,hv26,hc27,hc28⟩:=hr3.len
 refine rV (gX eC hv26) (rV (aWo (k:=.i64) (a:=(((aJ (val x)).length:Nat):Int)) (b:=2) rfl rfl) (aS (v:=(bd ((((aJ (val x)).length:Nat):Int)<=2))) rfl (aE ?_)))
 refine wcD (p:=(((aJ (val x)).length:Nat):Int)<=2) rfl (λhb29 hb29p=>?_) (λhb29 hb29p=>?_)
 ·have hx64:=rW.2 (show len (val x)<=2 by unfold len;omega)
  have hq64:val x/val y<18446744073709551616:=gM (iT _ _) hx64
  have hr64:val x%val y<18446744073709551616:=gM (aBd _ _) hx64
  refine wsr (mV (v:=vr2) rfl ?_)
  replace hr3:=hr3.tr (aH he16)
  refine cL aGa (aGb hr3 (cT _) oM) rfl ?_
  rintro vq32 _ ⟨hq31,rfl⟩
  rw[cX] at hq31
  subst hq31
  refine mV (v:=vr6) rfl ?_
  replace hr7:=hr7.tr (aH he16)
  refine cL aGa (aGb hr7 (cT _) oM) rfl ?_
  rintro vq35 _ ⟨hq34,rfl⟩
  rw[cX] at hq34
  subst hq34
  refine aS (v:=(.int .u64 ((((val x):Nat):Int)))) rfl (aS (v:=(.int .u64 ((((val y):Nat):Int)))) rfl (aE (dV ?_)))
  refine oQ pJ λw36 he37=>?_
  replace hE:=hE.nx he37
  refine aM 0 rfl (v:=(.int .u64 ((((val x):Nat):Int)))) rfl ?_
  refine aM 1 rfl (v:=(.int .u64 ((((val y):Nat):Int)))) rfl ?_
  refine ra 2 rfl (λ_=>aBe (k:=.u64) (a:=(((val x):Nat):Int)) (b:=(((val y):Nat):Int)) (c:=((val x/val y:Nat):Int)) rfl rfl oM (quoN oM)) ?_
  refine aM 4 rfl (v:=(.int .u64 ((((val x):Nat):Int)))) rfl ?_
  refine aM 5 rfl (v:=(.int .u64 ((((val y):Nat):Int)))) rfl ?_
  refine ra 6 rfl (λ_=>aDz (k:=.u64) (a:=(((val x):Nat):Int)) (b:=(((val y):Nat):Int)) (c:=((val x%val y:Nat):Int)) rfl rfl oM (aVg _ _)) ?_
  refine RA.all [3] kR rfl ?_
  refine cS vU (vV oM) rfl rfl ?_ RS.nil
  rintro vr40 w38 ⟨hr41,he39⟩
  refine rm he39 ?_
  replace hr41:=hr41.fr hE
  replace hE:=hE.nx he39
  have hlv42:=vT (n:=val x/val y) oM
  refine RA.all [7] kR rfl ?_
  refine cS vU (vV oM) rfl rfl ?_ RS.nil
  rintro vr45 w43 ⟨hr46,he44⟩
  refine rm he44 ?_
  replace hr46:=hr46.fr hE
  replace hE:=hE.nx he44
  have hlv47:=vT (n:=val x%val y) oM
  refine aA 8 rfl (v:=vr40) rfl ?_
  refine aA 9 rfl (v:=vr45) rfl ?_
  refine aA 10 rfl (v:=(.bool true)) rfl ?_
  refine RA.done kR ?_
  refine gH ?_
  refine⟨[vr40,vr45,(.bool true)],⟨rfl,⟨rfl,⟨rfl,trivial⟩⟩⟩,?_⟩
  replace hr41:=hr41.tr (aH he44)
  exact⟨⟨_,_,by rw[decide_eq_true hy0];rfl,hr41,by rw[vS,if_neg hy0];exact hr46⟩,hE⟩
 refine wsr (mV (v:=vr6) rfl (rV (gX eC hv11) (rV (tA (k:=.i64) (a:=(((aJ (val y)).length:Nat):Int)) (b:=1) rfl rfl) (aS (v:=(bd ((((aJ (val y)).length:Nat):Int)=1))) rfl (aE ?_)))))
 refine wcD (p:=(((aJ (val y)).length:Nat):Int)=1) rfl (λhb48 hb48p=>?_) (λhb48 hb48p=>?_)
 ·have hone:=aSg (n:=val y) oM
  have hone2:=hone.2
  refine wsr (mV (v:=vr2) rfl (mV (v:=vr6) rfl ?_))
  replace hr7:=hr7.tr (aH he16)
  obtain⟨b49,o50,c51,hv52,hc53⟩:=hr7.ix (i:=0) (0) oM oM
  rw[show(aJ (val y)).getD (0) default=val y from hone.1] at hc53
  refine rV (cA (i:=0) eC eR hv52 rfl oM oM) (rV (dJ (v:=(.int .u32 (((val y:Nat):Int)))) eS kH rfl hc53) ?_)
  replace hr3:=hr3.tr (aH he16)
  refine cL bMq (bTu hr3 (cT _) oM (d:=val y) oM oM) rfl ?_
  rintro _ w54 ⟨⟨vq56,vr58,rfl,hq57,hr59⟩,he55⟩
  simp only[cX] at hq57 hr59
  replace hq57:=hq57.fr hE
  replace hr59:=hr59.fr hE
  replace hE:=hE.nx he55
  refine mV (v:=(.tuple #[vq56,vr58])) rfl (rV (bZ (v:=vq56) rfl rfl) (rV (bZ (v:=vr58) rfl rfl) (aS (v:=vq56) rfl (aS (v:=vr58) rfl (aE (wsr (mV (v:=vq56) rfl (mV (v:=vr58) rfl (aS (v:=vq56) rfl (aS (v:=vr58) rfl (aS (v:=(.bool true)) rfl (aE ?_))))))))))))
  refine gH ?_
  refine⟨[vq56,vr58,(.bool true)],⟨rfl,⟨rfl,⟨rfl,trivial⟩⟩⟩,?_⟩
  exact⟨⟨_,_,by rw[decide_eq_true hy0];rfl,hq57,by rw[vS,if_neg hy0];exact hr59⟩,hE⟩
 have hy1:0<(aJ (val y)).length:=by rcases dB (aJ (val y)).length with h|h;exact absurd (kZ.1 h) hy0;exact h
 have htz:=aYb hy1
 refine fL ?_
 refine wsr (mV (v:=vr2) rfl (mV (v:=vr6) rfl ?_))
 replace hr3:=hr3.tr (aH he16)
 replace hr7:=hr7.tr (aH he16)
 refine cL bMr (bNa hr3 (cT _) oM hr7 (cT _) oM oM htz hlen) rfl ?_
 rintro _ w62 ⟨⟨vq64,vr66,rfl,hq65,hr67⟩,he63⟩
 simp only[cX] at hq65 hr67
 replace hq65:=hq65.fr hE
 replace hr67:=hr67.fr hE
 replace hE:=hE.nx he63
 refine mV (v:=(.tuple #[vq64,vr66])) rfl (rV (bZ (v:=vq64) rfl rfl) (rV (bZ (v:=vr66) rfl rfl) (aS (v:=vq64) rfl (aS (v:=vr66) rfl (aE (wsr (mV (v:=vq64) rfl (mV (v:=vr66) rfl (aS (v:=vq64) rfl (aS (v:=vr66) rfl (aS (v:=(.bool true)) rfl (aE ?_))))))))))))
 refine gH ?_
 refine⟨[vq64,vr66,(.bool true)],⟨rfl,⟨rfl,⟨rfl,trivial⟩⟩⟩,?_⟩
 exact⟨⟨_,_,by rw[decide_eq_true hy0];rfl,hq65,by rw[vS,if_neg hy0];exact hr67⟩,hE⟩
end Go.Proofs.YtlhdigjbokkbiaaGreat.W
namespace Go.Vm
def sgn (e:Bool):Int:=match e with
 |true=>1
 |false=>-1
theorem uT (e:Bool):sgn (!e)=-sgn e:=by cases e<;>rfl
theorem aYc (e:Bool):sgn e*sgn e=1:=by cases e<;>rfl
structure Leh (A B h X Y x y u0 u1 u2 v0 v1 v2:Nat) (e:Bool):Prop where
 fx:A/h=X
 fy:B/h=Y
 hh:0<h
 i1:v2*x+v1*y=X
 i2:u2*x+u1*y=Y
 s1:(x:Int)=-sgn e*(u1*X-v1*Y)
 s2:(y:Int)=sgn e*(u2*X-v2*Y)
 le2:u2<=v2
 les:u1+u2<=v1+v2
 pos:1<=v2
 yx:y<=x
 det:(u1:Int)*v2-u2*v1=-sgn e
 st:(e=false/\u0=0/\v0=0/\u1=1/\v1=0/\u2=0/\v2=1)\/((u0:Int)*v1-u1*v0=sgn e/\0<=-sgn e*(u1*A-v1*B)/\-sgn e*(u1*A-v1*B)<=B/\
  (v0=0\/(-sgn e*(u1*A-v1*B)<sgn e*(u0*A-v0*B)/\sgn e*(u0*A-v0*B)<=B)))
theorem Leh.start {A B h:Nat} (hh:0<h) (hAB:B<=A):Leh A B h (A/h) (B/h) (A/h) (B/h) 0 1 0 0 0 1 false:=by
 refine⟨rfl,rfl,hh,by omega,by omega,?_,?_,by omega,by omega,by omega,Nat.div_le_div_right hAB,rfl,.inl ⟨rfl,rfl,rfl,rfl,rfl,rfl,rfl⟩⟩
 ·simp[sgn]
 simp[sgn]
theorem aSh {u v α β h:Int} (e:Bool) (hu:0<=u) (huv:u<=v) (ha:0<=α) (ha':α<=h-1) (hb:0<=β) (hb':β<=h-1):-(v*(h-1))<=sgn e*(u*α-v*β):=by
 have h1:u*α<=v*(h-1):=Int.le_trans (nO huv ha) (sM ha' oM)
 have h2:v*β<=v*(h-1):=sM hb' oM
 have h3:0<=u*α:=zJ hu ha
 have h4:0<=v*β:=zJ oM hb
 cases e<;>simp only[sgn]<;>omega
theorem Leh.bounds {A B h X Y x y u0 u1 u2 v0 v1 v2:Nat} {e:Bool} (H:Leh A B h X Y x y u0 u1 u2 v0 v1 v2 e) (hy:1<=y):v1+v2<=X/\u1+u2<=Y/\v2<=X/\u2<=Y:=by
 have h1:=H.i1
 have h2:=H.i2
 have hx:1<=x:=bA hy H.yx
 have a1:=gV v2 hx
 have a2:=gV v1 hy
 have a3:=gV u2 hx
 have a4:=gV u1 hy
 omega
theorem Leh.step {A B h X Y x y u0 u1 u2 v0 v1 v2:Nat} {e:Bool} (H:Leh A B h X Y x y u0 u1 u2 v0 v1 v2 e) (c1:v2<=y) (c2:v1+v2<=x-y):
 Leh A B h X Y y (x%y) u1 u2 (u1+x/y*u2) v1 v2 (v1+x/y*v2) (!e)/\x%y<y/\v1+x/y*v2<=X/\u1+x/y*u2<=Y:=by
 have hy:1<=y:=bA H.pos c1
 have hdm:=iI x y
 have hlt:=dM x hy
 have hx:=H.yx
 have hq:1<=x/y:=(Nat.one_le_div_iff hy).2 hx
 generalize hqq:x/y=q at*
 generalize hrr:x%y=r at*
 have hxr:(x:Int)=y*q+r:=by exact_mod_cast hdm.symm
 obtain⟨α,hα,hα1⟩:∃α:Int,(A:Int)=X*h+α/\0<=α/\α<=h-1:=by
  refine⟨(A%h:Nat),?_,by omega,by have:=dM A H.hh;omega⟩
  have:=iI A h
  rw[H.fx] at this
  rw[<-dH,<-sU,bO,this]
 obtain⟨β,hβ,hβ1⟩:∃β:Int,(B:Int)=Y*h+β/\0<=β/\β<=h-1:=by
  refine⟨(B%h:Nat),?_,by omega,by have:=dM B H.hh;omega⟩
  have:=iI B h
  rw[H.fy] at this
  rw[<-dH,<-sU,bO,this]
 have hhI:(1:Int)<=h:=by have:=H.hh;omega
 have n1:sgn e*(u2*A-v2*B)=y*h+sgn e*(u2*α-v2*β):=by
  rw[hα,hβ,H.s2]
  grind
 have n0:-sgn e*(u1*A-v1*B)-sgn e*(u2*A-v2*B)=(x-y)*h+sgn (!e)*((u1+u2)*α-(v1+v2)*β):=by
  rw[hα,hβ,uT]
  have t1:=H.s1
  have t2:=H.s2
  rw[Int.sub_mul,t1,t2]
  grind
 have l1:=aSh (u:=u2) (v:=v2) (α:=α) (β:=β) (h:=h) e oM (by have:=H.le2;omega) hα1.1 hα1.2 hβ1.1 hβ1.2
 have l0:=aSh (u:=u1+u2) (v:=v1+v2) (α:=α) (β:=β) (h:=h) (!e) oM (by have:=H.les;omega) hα1.1 hα1.2 hβ1.1 hβ1.2
 have m1:(v2:Int)*h<=y*h:=nO oM oM
 have m0:((v1:Int)+v2)*h<=(x-y)*h:=nO oM oM
 have e1:(v2:Int)*(h-1)=v2*h-v2:=by rw[Int.mul_sub,zG]
 have e0:((v1:Int)+v2)*(h-1)=(v1+v2)*h-(v1+v2):=by rw[Int.mul_sub,zG]
 have hp:=H.pos
 have p1:0<=sgn e*(u2*A-v2*B):=by rw[n1];omega
 have p0:sgn e*(u2*A-v2*B)< -sgn e*(u1*A-v1*B):=by omega
 have H':Leh A B h X Y y r u1 u2 (u1+q*u2) v1 v2 (v1+q*v2) (!e):=by
  refine⟨H.fx,H.fy,H.hh,?_,?_,?_,?_,?_,?_,?_,by omega,?_,?_⟩
  ·have:=H.i1;grind
  ·have:=H.i2;grind
  ·rw[uT,vK];exact H.s2
  ·have t1:=H.s1
   have t2:=H.s2
   rw[uT]
   have:(r:Int)=x-y*q:=by omega
   rw[this,t1]
   have t3:(y:Int)*q=sgn e*(u2*X-v2*Y)*q:=by rw[<-t2]
   rw[t3]
   push_cast
   grind
  ·have a:=H.le2
   have b:=H.les
   have c:=dZ (q-1) a
   have d1:q*u2=(q-1)*u2+u2:=by rw[<-eN,pP,nZ hq]
   have d2:q*v2=(q-1)*v2+v2:=by rw[<-eN,pP,nZ hq]
   omega
  ·have a:=H.le2
   have b:=H.les
   have c:=dZ (q-1) a
   have d1:q*u2=(q-1)*u2+u2:=by rw[<-eN,pP,nZ hq]
   have d2:q*v2=(q-1)*v2+v2:=by rw[<-eN,pP,nZ hq]
   omega
  ·have:=Nat.le_mul_of_pos_left v2 hq
   omega
  ·have:=H.det
   rw[uT]
   push_cast
   grind
  right
  refine⟨by rw[uT];exact H.det,by rw[uT,vK];exact p1,?_,?_⟩
  ·rw[uT,vK]
   rcases H.st with ⟨he,_,_,_,_,hu2,hv2⟩|⟨_,_,h3,_⟩
   ·subst he hu2 hv2
    simp[sgn]
   omega
  rcases H.st with ⟨_,_,_,_,hv1,_,_⟩|⟨_,_,h3,_⟩
  ·exact .inl hv1
  right
  rw[uT,vK]
  exact⟨p0,h3⟩
 refine⟨H',hlt,?_,?_⟩
 ·have t:=H'.i1
  have:=gV (v1+q*v2) hy
  omega
 have t:=H'.i2
 have:=gV (u1+q*u2) hy
 omega
theorem Leh.fin {A B h X Y x y u0 u1 u2 v0 v1 v2:Nat} {e:Bool} (H:Leh A B h X Y x y u0 u1 u2 v0 v1 v2 e) (hv:v0≠0):
 (e=true->v0*B<=u0*A/\u1*A<=v1*B/\Nat.gcd (u0*A-v0*B) (v1*B-u1*A)=Nat.gcd A B/\v1*B-u1*A<u0*A-v0*B/\u0*A-v0*B<=B)/\
 (e=false->u0*A<=v0*B/\v1*B<=u1*A/\Nat.gcd (v0*B-u0*A) (u1*A-v1*B)=Nat.gcd A B/\u1*A-v1*B<v0*B-u0*A/\v0*B-u0*A<=B):=by
 rcases H.st with ⟨_,_,h,_⟩|⟨hd,h1,h2,h3⟩
 ·exact absurd h hv
 have h3:=h3.resolve_left hv
 have key:∀a b:Nat,(a:Int)=sgn e*(u0*A-v0*B)->(b:Int)=-sgn e*(u1*A-v1*B)->Nat.gcd a b=Nat.gcd A B:=by
  intro a b ha hb
  have k1:A=v1*a+v0*b:=by
   have:(A:Int)=v1*a+v0*b:=by
    rw[ha,hb]
    have:=aYc e
    have e2:(v1:Int)*(sgn e*(u0*A-v0*B))+v0*(-sgn e*(u1*A-v1*B))=sgn e*A*(u0*v1-u1*v0):=by grind
    rw[e2,hd]
    grind
   exact_mod_cast this
  have k2:B=u1*a+u0*b:=by
   have:(B:Int)=u1*a+u0*b:=by
    rw[ha,hb]
    have:=aYc e
    have e2:(u1:Int)*(sgn e*(u0*A-v0*B))+u0*(-sgn e*(u1*A-v1*B))=sgn e*B*(u0*v1-u1*v0):=by grind
    rw[e2,hd]
    grind
   exact_mod_cast this
  apply Nat.dvd_antisymm
  ·refine Nat.dvd_gcd ?_ ?_
   ·rw[k1];exact Nat.dvd_add (wA (kG a b) (rR ..)) (wA (vL a b) (rR ..))
   rw[k2];exact Nat.dvd_add (wA (kG a b) (rR ..)) (wA (vL a b) (rR ..))
  have hA:((Nat.gcd A B:Nat):Int)∣(A:Int):=nP.2 (kG A B)
  have hB:((Nat.gcd A B:Nat):Int)∣(B:Int):=nP.2 (vL A B)
  refine Nat.dvd_gcd ?_ ?_
  ·rw[<-nP,ha]
   exact pV (Int.dvd_sub (pV hA (nQ ..)) (pV hB (nQ ..))) (nQ ..)
  rw[<-nP,hb]
  exact pV (Int.dvd_sub (pV hA (nQ ..)) (pV hB (nQ ..))) (nQ ..)
 constructor
 ·intro he
  subst he
  simp only[sgn,zE,vF] at h1 h2 h3 key
  have c1:v0*B<=u0*A:=by
   have:(v0:Int)*B<=u0*A:=by omega
   exact_mod_cast this
  have c2:u1*A<=v1*B:=by
   have:(u1:Int)*A<=v1*B:=by omega
   exact_mod_cast this
  have w1:((u0*A-v0*B:Nat):Int)=u0*A-v0*B:=by rw[sV c1];push_cast;rfl
  have w2:((v1*B-u1*A:Nat):Int)=v1*B-u1*A:=by rw[sV c2];push_cast;rfl
  refine⟨c1,c2,key _ _ w1 (by rw[w2];omega),?_,?_⟩
  ·have:((v1*B-u1*A:Nat):Int)<((u0*A-v0*B:Nat):Int):=by rw[w1,w2];omega
   exact_mod_cast this
  have:((u0*A-v0*B:Nat):Int)<=(B:Int):=by rw[w1];omega
  exact_mod_cast this
 intro he
 subst he
 simp only[sgn,zE,vF,vK] at h1 h2 h3 key
 have c1:u0*A<=v0*B:=by
  have:(u0:Int)*A<=v0*B:=by omega
  exact_mod_cast this
 have c2:v1*B<=u1*A:=by
  have:(v1:Int)*B<=u1*A:=by omega
  exact_mod_cast this
 have w1:((v0*B-u0*A:Nat):Int)=v0*B-u0*A:=by rw[sV c1];push_cast;rfl
 have w2:((u1*A-v1*B:Nat):Int)=u1*A-v1*B:=by rw[sV c2];push_cast;rfl
 refine⟨c1,c2,key _ _ (by rw[w1];omega) w2,?_,?_⟩
 ·have:((u1*A-v1*B:Nat):Int)<((v0*B-u0*A:Nat):Int):=by rw[w1,w2];omega
  exact_mod_cast this
 have:((v0*B-u0*A:Nat):Int)<=(B:Int):=by rw[w1];omega
 exact_mod_cast this
theorem bHf {x:List Nat} {n s:Nat} (lm:Lm x) (hn:3<=n) (hl:x.length<=n) (hs:s<=31):val x/(4294967296^(n-3)*2^(32-s))=(dig x (n-1)*4294967296+dig x (n-2))*2^s+dig x (n-3)/2^(32-s):=by
 rw[<-jX,tG lm,pB,show n-3+1=n-2 by omega,pB x (n-2),show n-2+1=n-1 by omega,pB x (n-1),cB oM]
 have e:(4294967296:Nat)=2^(32-s)*2^s:=by rw[<-kB,show 32-s+s=32 by omega]
 have hp:0<2^(32-s):=jC dC
 simp only[val,nV,jG]
 have e2:dig x (n-3)+4294967296*(dig x (n-2)+4294967296*dig x (n-1))=dig x (n-3)+2^(32-s)*((dig x (n-1)*4294967296+dig x (n-2))*2^s):=by
  congr 1
  rw[jY (dig x (n-2)),bO 4294967296 (dig x (n-1)),bO ((dig x (n-1)*4294967296+dig x (n-2))) (2^s),<-bQ,<-e]
 rw[e2,mU _ _ hp,jY]
theorem bHg {d1 d2 d3 s:Nat} (hs:s<=31) (h1:d1*2^s<4294967296) (h2:d2<4294967296) (h3:d3<4294967296):(d1*4294967296+d2)*2^s+d3/2^(32-s)<18446744073709551616/\(d1*4294967296+d2)*2^s<18446744073709551616/\d3/2^(32-s)<2^s:=by
 have e:(4294967296:Nat)=2^(32-s)*2^s:=by rw[<-kB,show 32-s+s=32 by omega]
 have hp:0<2^(32-s):=jC dC
 have h5:d3/2^(32-s)<2^s:=(jD hp).2 (by rw[bO,<-e];exact h3)
 have h4:(d1+1)*2^s<=4294967296:=by
  rw[e] at h1 ⊢
  exact bK _ (mG h1)
 have h6:(d1*4294967296+d2+1)*2^s<=18446744073709551616:=by
  have h7:(d1*4294967296+d2+1)*2^s<=((d1+1)*4294967296)*2^s:=bK _ oM
  have h8:((d1+1)*4294967296)*2^s=((d1+1)*2^s)*4294967296:=by rw[uE]
  omega
 rw[dW,lN] at h6
 generalize d3/2^(32-s)=r at*
 exact⟨by omega,by omega,h5⟩
theorem aSi {x:List Nat} {n:Nat} (lm:Lm x) (h1:1<=n) (hl:x.length<=n):dig x (n-1)=val x/4294967296^(n-1):=by
 rw[tG lm,pB,show n-1+1=n by omega,cB hl]
 simp[val]
theorem aYd {x y:List Nat} {n:Nat} (lx:Lm x) (ly:Lm y) (h1:1<=n) (hx:x.length<=n) (hy:y.length<=n) (h:val y<=val x):dig y (n-1)<=dig x (n-1):=by
 rw[aSi lx h1 hx,aSi ly h1 hy]
 exact Nat.div_le_div_right h
end Go.Vm
namespace Go.Proofs.YtlhdigjbokkbiaaGreat.W
open Go.Vg Go.RowKit _root_.Go.Proofs.Tryz
open Go.Vm
theorem cAq {x s:Nat} (hs:s<=31) (h:x*2^s<18446744073709551616):IntKind.u64.wrap ((x:Int)*2^(min (s:Int).toNat IntKind.u64.bits))=((x*2^s:Nat):Int):=by
 rw[bP,show min s IntKind.u64.bits=s from fI (bA hs dC)]
 rw[show((x:Int)*2^s)=((x*2^s:Nat):Int) by simp]
 generalize x*2^s=p at*
 exact iV oM
theorem cAr {x s:Nat} (hs:s<=32):(x:Int).fdiv (2^(min (s:Int).toNat IntKind.u64.bits))=((x/2^s:Nat):Int):=by
 rw[bP,show min s IntKind.u64.bits=s from fI (bA hs dC),iS _ (tM (Int.pow_pos dC))]
 simp
theorem orW {c x s:Nat} (hc:c<2^s) (hb:x*2^s+c<18446744073709551616):IntKind.u64.wrap ((BitVec.ofInt IntKind.u64.bits ((x*2^s:Nat):Int)|||BitVec.ofInt IntKind.u64.bits (c:Int)).toNat:Int)=((x*2^s+c:Nat):Int):=by
 have h:=orS (x:=x) hc (by rw[jY];exact hb)
 rw[jY,<-h]
 congr 2
 exact congrArg BitVec.toNat (zH _ _)
theorem aOt {w:World} {D:Nat->TypeId->Prop} {vx:Value} {x:List Nat} {b i:Nat} (hb:Bk w b 47 [vx]) (hx:Sg (gN .u32) D w vx x) (lmx:Lm x) (hi:i<=9223372036854775807):
 Calls Tryz.prog 186 #[(iv i),(.pointer (some ⟨b,0,none⟩))] w λe w'=>∃v,e= .returned v/\v= .int .u64 ((dig x i:Nat):Int)/\w=w':=by
 refine eE (n:=13) (rs:=[.tmp 3]) func186 rfl rfl rfl bL ?_
 refine iU λF0 hF0=>?_
 refine wsr (aS (v:=(.int .u64 0)) rfl (aE (dV (wsr (mV (v:=(iv i)) (hF0 0) ?_)))))
 have hc1:=hb.cell (j:=0) (u:=vx) rfl
 refine rV (dJ eC tF (hF0 1) hc1) ?_
 obtain⟨A2,c3,hv4,hc5,hc6⟩:=hx.len
 refine rV (gX eC hv4) (rV (mP (k:=.i64) (a:=(i:Int)) (b:=((x.length:Nat):Int)) rfl rfl) (aE ?_))
 refine wcD (p:=(i:Int)<((x.length:Nat):Int)) rfl (λhb7 hb7p=>?_) (λhb7 hb7p=>?_)
 ·have hil:i<x.length:=by omega
  have hxi:=lmx.at hil
  refine wsr ?_
  have hc8:=hb.cell (j:=0) (u:=vx) rfl
  refine rV (dJ eC tF (hF0 1) hc8) (mV (v:=(iv i)) (hF0 0) ?_)
  obtain⟨b9,o10,c11,hv12,hc13⟩:=hx.ix (i:=(i:Int)) (i) oM oM
  refine rV (cA (i:=(i:Int)) eC eR hv12 rfl oM oM) (rV (dJ (v:=(.int .u32 (((x.getD (i) default:Nat):Int)))) eS kH rfl hc13) (rV (fE (k:=.u64) (a:=((x.getD (i) default:Nat):Int)) (c:=((x.getD (i) default:Nat):Int)) eS jE rfl (iV oM)) (aS (v:=(.int .u64 (((x.getD (i) default:Nat):Int)))) rfl (aE ?_))))
  refine gH ?_
  refine⟨[(.int .u64 (((x.getD (i) default:Nat):Int)))],⟨rfl,trivial⟩,?_⟩
  exact⟨cQ (by rw[qQ hil]),rfl⟩
 refine fL ?_
 refine wsr (aS (v:=(.int .u64 0)) rfl (aE ?_))
 refine gH ?_
 refine⟨[(.int .u64 0)],⟨rfl,trivial⟩,?_⟩
 exact⟨cQ (by rw[wE oM];rfl),rfl⟩
theorem aMp {w:World} {Dx:Nat->TypeId->Prop} {vx:Value} {x:List Nat} (hx0:Sg (gN .u32) Dx w vx x) (lmx:Lm x) (lnx:x.length<=1099511627776) {n sh:Nat} (hs:sh<=31) (hn3:3<=n) (hln:x.length<=n) (hnb:n<=1099511627776) (htop:dig x (n-1)*2^sh<4294967296):
 Calls Tryz.prog 173 #[vx,(iv n),(iv sh)] w λe w'=>∃v,e= .returned v/\(v= .int .u64 ((val x/(4294967296^(n-3)*2^(32-sh)):Nat):Int)/\val x/(4294967296^(n-3)*2^(32-sh))<18446744073709551616)/\Ext w w':=by
 have hE:Below w.heap.size w w:=Below.refl _ _
 have hx:=hx0.old
 clear hx0
 have hlvx:=eO lmx
 refine eE (n:=29) (rs:=[.tmp 6]) func173 rfl rfl rfl bL ?_
 refine iU λF0 hF0=>?_
 refine wsr ?_
 refine rU (aWs (vv:=vx) (cs:=[vx]) (hF0 0) (aDa hx.one)) ?_
 rintro _ w1 ⟨b2,rfl,hs5,hb4,he3⟩
 have ge_b2:=hE.ge hs5
 refine aS (v:=(.int .u64 0)) rfl (aE (wsr (rV (aOj (vl:=[(.pointer (some ⟨b2,0,none⟩))]) rfl) (aS (v:=(.func (.func 186) #[] #[(.pointer (some ⟨b2,0,none⟩))])) rfl (aE (dV ?_))))))
 have hd1:=vO lmx (n-1)
 have hd2:=vO lmx (n-2)
 have hd3:=vO lmx (n-3)
 have hfit:=bHg hs htop hd2 hd3
 have hwin:=bHf lmx hn3 hln hs
 refine oQ pJ λw6 he7=>?_
 replace hE:=(hE.nx he3).nx he7
 refine aM 0 rfl (v:=(.func (.func 186) #[] #[(.pointer (some ⟨b2,0,none⟩))])) rfl ?_
 refine aM 1 rfl (v:=(iv n)) (hF0 1) ?_
 refine ra 2 rfl (λ_=>lT (k:=.i64) (a:=(n:Int)) (b:=1) (c:=((n-1:Nat):Int)) rfl rfl ((jS oM).trans oM)) ?_
 refine aM 5 rfl (v:=(.func (.func 186) #[] #[(.pointer (some ⟨b2,0,none⟩))])) rfl ?_
 refine aM 6 rfl (v:=(iv n)) (hF0 1) ?_
 refine ra 7 rfl (λ_=>lT (k:=.i64) (a:=(n:Int)) (b:=2) (c:=((n-2:Nat):Int)) rfl rfl ((jS oM).trans oM)) ?_
 refine aM 10 rfl (v:=(iv sh)) (hF0 2) ?_
 refine aM 12 rfl (v:=(.func (.func 186) #[] #[(.pointer (some ⟨b2,0,none⟩))])) rfl ?_
 refine aM 13 rfl (v:=(iv n)) (hF0 1) ?_
 refine ra 14 rfl (λ_=>lT (k:=.i64) (a:=(n:Int)) (b:=3) (c:=((n-3:Nat):Int)) rfl rfl ((jS oM).trans oM)) ?_
 refine aM 16 rfl (v:=(iv sh)) (hF0 2) ?_
 refine ra 17 rfl (λ_=>lT (k:=.i64) (a:=32) (b:=(sh:Int)) (c:=((32-sh:Nat):Int)) rfl rfl ((jS oM).trans oM)) ?_
 refine RA.all [3] kR rfl ?_
 replace hb4:=hb4.ext he7
 replace hx:=hx.tr (aH (aB he3 he7))
 refine RS.call rfl rfl rfl dC (aJe (vl:=[(iv (n-1:Nat))]) (cl:=[(.pointer (some ⟨b2,0,none⟩))]) rfl aOq rfl) (aOt (i:=n-1) hb4 hx lmx oM) ?_ RS.nil
 rintro _ _ ⟨rfl,rfl⟩
 refine rm (gE _) ?_
 refine ra 4 rfl (λ_=>aBf (k:=.u64) (a:=((dig x (n-1):Nat):Int)) (b:=32) (c:=(((dig x (n-1))*4294967296:Nat):Int)) rfl rfl dC (shl32 hd1)) ?_
 refine RA.all [8] kR rfl ?_
 refine RS.call rfl rfl rfl dC (aJe (vl:=[(iv (n-2:Nat))]) (cl:=[(.pointer (some ⟨b2,0,none⟩))]) rfl aOq rfl) (aOt (i:=n-2) hb4 hx lmx oM) ?_ RS.nil
 rintro _ _ ⟨rfl,rfl⟩
 refine rm (gE _) ?_
 refine ra 9 rfl (λ_=>aJd (k:=.u64) (a:=(((dig x (n-1))*4294967296:Nat):Int)) (b:=((dig x (n-2):Nat):Int)) (c:=(((dig x (n-1))*4294967296+(dig x (n-2)):Nat):Int)) rfl rfl (or32 hd1 hd2)) ?_
 refine ra 11 rfl (λ_=>aBf (k:=.u64) (a:=(((dig x (n-1))*4294967296+(dig x (n-2)):Nat):Int)) (b:=(sh:Int)) (c:=((((dig x (n-1))*4294967296+(dig x (n-2)))*2^sh:Nat):Int)) rfl rfl oM (cAq hs hfit.2.1)) ?_
 refine RA.all [15] kR rfl ?_
 refine RS.call rfl rfl rfl dC (aJe (vl:=[(iv (n-3:Nat))]) (cl:=[(.pointer (some ⟨b2,0,none⟩))]) rfl aOq rfl) (aOt (i:=n-3) hb4 hx lmx oM) ?_ RS.nil
 rintro _ _ ⟨rfl,rfl⟩
 refine rm (gE _) ?_
 refine ra 18 rfl (λ_=>tU (k:=.u64) (a:=((dig x (n-3):Nat):Int)) (b:=((32-sh:Nat):Int)) (c:=(((dig x (n-3))/2^(32-sh):Nat):Int)) rfl rfl oM (cAr oM)) ?_
 refine ra 19 rfl (λ_=>aJd (k:=.u64) (a:=((((dig x (n-1))*4294967296+(dig x (n-2)))*2^sh:Nat):Int)) (b:=(((dig x (n-3))/2^(32-sh):Nat):Int)) (c:=(((((dig x (n-1))*4294967296+(dig x (n-2)))*2^sh+(dig x (n-3))/2^(32-sh)):Nat):Int)) rfl rfl (orW hfit.2.2 hfit.1)) ?_
 refine aA 20 rfl (v:=(.int .u64 ((((((dig x (n-1))*4294967296+(dig x (n-2)))*2^sh+(dig x (n-3))/2^(32-sh)):Nat):Int)))) rfl ?_
 refine RA.done kR ?_
 refine gH ?_
 refine⟨[(.int .u64 ((((((dig x (n-1))*4294967296+(dig x (n-2)))*2^sh+(dig x (n-3))/2^(32-sh)):Nat):Int)))],⟨rfl,trivial⟩,?_⟩
 rw[hwin]
 exact⟨⟨rfl,hfit.1⟩,hE⟩
theorem aVn {w:World} {Dx:Nat->TypeId->Prop} {vx:Value} {x:List Nat} (hx0:Sg (gN .u32) Dx w vx x) (lmx:Lm x) (lnx:x.length<=1099511627776) {Dy:Nat->TypeId->Prop} {vy:Value} {y:List Nat} (hy0:Sg (gN .u32) Dy w vy y) (lmy:Lm y) (lny:y.length<=1099511627776) (hl3:3<=x.length) (htz:x.getD (x.length-1) default≠0) (hyx:y.length<=x.length) (hle:val y<=val x):
 Calls Tryz.prog 149 #[vx,vy] w λe w'=>∃v,e= .returned v/\(∃(u0 u1 v0 v1:Nat) (e:Bool),v= .agg #[.int .u64 (u0:Int),.int .u64 (u1:Int),.int .u64 (v0:Int),.int .u64 (v1:Int),.bool e]/\u0<18446744073709551616/\u1<18446744073709551616/\v0<18446744073709551616/\v1<18446744073709551616/\(v0≠0->(e=true->v0*val y<=u0*val x/\u1*val x<=v1*val y/\Nat.gcd (u0*val x-v0*val y) (v1*val y-u1*val x)=Nat.gcd (val x) (val y)/\v1*val y-u1*val x<u0*val x-v0*val y/\u0*val x-v0*val y<=val y)/\(e=false->u0*val x<=v0*val y/\v1*val y<=u1*val x/\Nat.gcd (v0*val y-u0*val x) (u1*val x-v1*val y)=Nat.gcd (val x) (val y)/\u1*val x-v1*val y<v0*val y-u0*val x/\v0*val y-u0*val x<=val y)))/\Ext w w':=by
 have hE:Below w.heap.size w w:=Below.refl _ _
 have hx:=hx0.old
 clear hx0
 have hy:=hy0.old
 clear hy0
 have hlvx:=eO lmx
 have hlvy:=eO lmy
 refine eE (n:=74) (rs:=[.cell 4 171]) func149 rfl rfl rfl bL ?_
 refine iU λF0 hF0=>?_
 refine wsr ?_
 refine rU (jA (cs:=[(.int .u64 0),(.int .u64 0),(.int .u64 0),(.int .u64 0),(.bool false)]) aBk rfl) ?_
 rintro _ w1 ⟨b2,rfl,hs5,hb4,he3⟩
 have ge_b2:=hE.ge hs5
 refine aE (wsr (mV (v:=vx) (hF0 0) ?_))
 obtain⟨A6,c7,hv8,hc9,hc10⟩:=hx.len
 refine rV (gX eC hv8) (aS (v:=(iv (x.length:Nat))) rfl (aE (dV ?_)))
 have htl:=lmx.at (k:=x.length-1) oM
 refine cV (mV (v:=vx) (hF0 0) (mV (v:=(iv (x.length:Nat))) rfl (rV (lT (k:=.i64) (a:=((x.length:Nat):Int)) (b:=1) (c:=((x.length:Nat):Int)-1) rfl rfl (jS oM)) ?_)))
 replace hx:=hx.tr (aH he3)
 obtain⟨b11,o12,c13,hv14,hc15⟩:=hx.ix (i:=((x.length:Nat):Int)-1) (x.length-1) oM oM
 refine rV (cA (i:=((x.length:Nat):Int)-1) eC eR hv14 rfl oM oM) (rV (dJ (v:=(.int .u32 (((x.getD (x.length-1) default:Nat):Int)))) eS kH rfl hc15) ?_)
 refine cL aXj (aIm (x:=x.getD (x.length-1) default) _ htz htl) rfl ?_
 rintro _ _ ⟨⟨sh,rfl,hs,hz1,hz2⟩,rfl⟩
 refine aS (v:=(iv sh)) rfl (aE (dV ?_))
 have htx:dig x (x.length-1)*2^sh<4294967296:=by rw[qQ oM];exact hz2
 have hty:dig y (x.length-1)*2^sh<4294967296:=gM (bK _ (aYd lmx lmy oM (aI _) hyx hle)) htx
 refine cV (mV (v:=vx) (hF0 0) (mV (v:=(iv (x.length:Nat))) rfl (mV (v:=(iv sh)) rfl ?_)))
 refine cL aXk (aMp hx (by assumption) oM hs hl3 oM oM htx) rfl ?_
 rintro _ w17 ⟨⟨rfl,hb19⟩,he18⟩
 have hX64:=hb19
 refine mV (v:=vy) (hF0 1) (mV (v:=(iv (x.length:Nat))) rfl (mV (v:=(iv sh)) rfl ?_))
 replace hy:=hy.tr (aH (aB he3 he18))
 refine cL aXk (aMp hy (by assumption) oM hs hl3 oM oM hty) rfl ?_
 rintro _ w20 ⟨⟨rfl,hb22⟩,he21⟩
 have hY64:=hb22
 replace hE:=((hE.nx he3).nx he18).nx he21
 refine aS (v:=(.int .u64 ((((val x)/(4294967296^(x.length-3)*2^(32-sh)):Nat):Int)))) rfl (aS (v:=(.int .u64 ((((val y)/(4294967296^(x.length-3)*2^(32-sh)):Nat):Int)))) rfl (aE (dV ?_)))
 have hhp:0<(4294967296^(x.length-3)*2^(32-sh)):=mW (jC dC) (jC dC)
 refine cV (aS (v:=(.int .u64 0)) rfl (aS (v:=(.int .u64 1)) rfl (aS (v:=(.int .u64 0)) rfl (aE (wsr (aS (v:=(.int .u64 0)) rfl (aS (v:=(.int .u64 0)) rfl (aS (v:=(.int .u64 1)) rfl (aE (wsr (aS (v:=(.bool false)) rfl (aE (dV ?_)))))))))))))
 refine gC ?_
 refine iU λF23 hF24=>?_
 refine oP (σ:=Nat×Nat×Nat×Nat×Nat×Nat×Nat×Nat×Bool) (λ(s:Nat×Nat×Nat×Nat×Nat×Nat×Nat×Nat×Bool) fl wl=>match s with|(p,r,u0,u1,u2,v0,v1,v2,e)=>Off (rg 7 10 (rg 33 35 [])) F23 fl/\fl 7=(.int .u64 (p:Int))/\fl 8=(.int .u64 (r:Int))/\fl 9=(.int .u64 (u0:Int))/\fl 10=(.int .u64 (u1:Int))/\fl 11=(.int .u64 (u2:Int))/\fl 12=(.int .u64 (v0:Int))/\fl 13=(.int .u64 (v1:Int))/\fl 14=(.int .u64 (v2:Int))/\fl 15=(.bool e)/\(Leh (val x) (val y) (4294967296^(x.length-3)*2^(32-sh)) (val x/(4294967296^(x.length-3)*2^(32-sh))) (val y/(4294967296^(x.length-3)*2^(32-sh))) p r u0 u1 u2 v0 v1 v2 e)/\(p<18446744073709551616)/\(u0<18446744073709551616)/\(u1<18446744073709551616)/\(u2<18446744073709551616)/\(v0<18446744073709551616)/\(v1<18446744073709551616)/\(v2<18446744073709551616)/\(Sg (gN .u32) (λb T=>Dx b T/\b<w.heap.size) wl vx x)/\(Sg (gN .u32) (λb T=>Dy b T/\b<w.heap.size) wl vy y)/\(Below w.heap.size w wl)/\(Bk wl b2 171 [(.int .u64 0),(.int .u64 0),(.int .u64 0),(.int .u64 0),(.bool false)])) (λ(s:Nat×Nat×Nat×Nat×Nat×Nat×Nat×Nat×Bool)=>match s with|(p,r,u0,u1,u2,v0,v1,v2,e)=>r) ((val x/(4294967296^(x.length-3)*2^(32-sh))),(val y/(4294967296^(x.length-3)*2^(32-sh))),0,1,0,0,0,1,false) ?_ ?_
 ·replace hx:=hx.tr (aH (aB he18 he21))
  replace hy:=hy.tr (aH he21)
  replace hb4:=hb4.ext (aB he18 he21)
  exact⟨Off.refl _ _,(hF24 7).trans (rfl),(hF24 8).trans (rfl),(hF24 9).trans (rfl),(hF24 10).trans (rfl),(hF24 11).trans (rfl),(hF24 12).trans (rfl),(hF24 13).trans (rfl),(hF24 14).trans (rfl),(hF24 15).trans (rfl),Leh.start hhp hle,hX64,by decide,by decide,by decide,by decide,by decide,by decide,hx,hy,hE,hb4⟩
 clear hx hy hE hb4
 rintro⟨p,r,u0,u1,u2,v0,v1,v2,e⟩ f25 w26 ⟨G27,hs28,hs29,hs30,hs31,hs32,hs33,hs34,hs35,hs36,hL,hp64,hu0,hu1,hu2,hv0,hv1,hv2,hx,hy,hE,hb4⟩
 refine dV (dV ?_)
 have hbnd:=λh=>hL.bounds (y:=r) h
 have hpos:=hL.pos
 have hyx2:=hL.yx
 refine cV (mV hs29 (mV hs35 (rV (aEa (k:=.u64) (a:=(r:Int)) (b:=(v2:Int)) rfl rfl) (mV (v:=(bd ((v2:Int)<=(r:Int)))) rfl ?_))))
 rcases bD ((v2:Int)<=(r:Int)) with ⟨hb37,hb37p⟩|⟨hb37,hb37p⟩
 ·have hb0:=hbnd oM
  refine RL.gval rfl rfl (aW hb37) rfl dC (gS (v:=(.int .u64 (p:Int))) hs28) ?_
  refine RL.gval rfl rfl (aW hb37) rfl dC (gS (v:=(.int .u64 (r:Int))) hs29) ?_
  refine RL.gval rfl rfl (aW hb37) rfl dC (lT (k:=.u64) (a:=(p:Int)) (b:=(r:Int)) (c:=((p-r:Nat):Int)) rfl rfl ((iV oM).trans oM)) ?_
  refine RL.gval rfl rfl (aW hb37) rfl dC (gS (v:=(.int .u64 (v1:Int))) hs34) ?_
  refine RL.gval rfl rfl (aW hb37) rfl dC (gS (v:=(.int .u64 (v2:Int))) hs35) ?_
  refine RL.gval rfl rfl (aW hb37) rfl dC (kE (k:=.u64) (a:=(v1:Int)) (b:=(v2:Int)) (c:=((v1+v2:Nat):Int)) rfl rfl ((iV oM).trans oM)) ?_
  refine RL.gval rfl rfl (aW hb37) rfl dC (aEa (k:=.u64) (a:=((p-r:Nat):Int)) (b:=((v1+v2:Nat):Int)) rfl rfl) ?_
  refine rV (kT (v:=(bd (((v1+v2:Nat):Int)<=((p-r:Nat):Int)))) (aW hb37) rfl) (aE ?_)
  refine wcD (p:=((v1+v2:Nat):Int)<=((p-r:Nat):Int)) rfl (λhb38 hb38p=>?_) (λhb38 hb38p=>?_)
  ·refine fL ?_
   refine gC ?_
   refine dV ?_
   have hst:=hL.step oM oM
   have hr1:1<=r:=by omega
   have hq1:=hst.2.2.1
   have hq2:=hst.2.2.2
   obtain⟨m1,hm1⟩:∃z,z=p/r*u2:=⟨_,rfl⟩
   obtain⟨m2,hm2⟩:∃z,z=p/r*v2:=⟨_,rfl⟩
   rw[<-hm1] at hq2
   rw[<-hm2] at hq1
   refine cV (mV hs28 (mV hs29 (rV (aBe (k:=.u64) (a:=(p:Int)) (b:=(r:Int)) (c:=((p/r:Nat):Int)) rfl rfl oM (quoN oM)) (aS (v:=(.int .u64 (((p/r:Nat):Int)))) rfl (aE (dV ?_))))))
   refine oQ pJ λw39 he40=>?_
   replace hE:=hE.nx he40
   refine aM 0 rfl (v:=(.int .u64 (r:Int))) hs29 ?_
   refine aM 1 rfl (v:=(.int .u64 (p:Int))) hs28 ?_
   refine aM 2 rfl (v:=(.int .u64 (r:Int))) hs29 ?_
   refine ra 3 rfl (λ_=>aDz (k:=.u64) (a:=(p:Int)) (b:=(r:Int)) (c:=((p%r:Nat):Int)) rfl rfl oM (aVg _ _)) ?_
   refine aA 4 rfl (v:=(.int .u64 (r:Int))) rfl ?_
   refine aA 5 rfl (v:=(.int .u64 (((p%r:Nat):Int)))) rfl ?_
   refine RA.done kR ?_
   refine wsr (mV hs31 (mV hs32 (mV hs31 (mV (v:=(.int .u64 (((p/r:Nat):Int)))) rfl (mV hs32 (rV (uR (k:=.u64) (a:=((p/r:Nat):Int)) (b:=(u2:Int)) (c:=((p/r*u2:Nat):Int)) rfl rfl ((iV (by rw[<-dH,<-hm1];omega)).trans (by rw[dH]))) (rV (kE (k:=.u64) (a:=(u1:Int)) (b:=((p/r*u2:Nat):Int)) (c:=((u1+p/r*u2:Nat):Int)) rfl rfl ((iV (by rw[<-hm1];omega)).trans oM)) (aS (v:=(.int .u64 (u1:Int))) rfl (aS (v:=(.int .u64 (u2:Int))) rfl (aS (v:=(.int .u64 (((u1+p/r*u2:Nat):Int)))) rfl (aE (wsr (mV hs34 (mV hs35 (mV hs34 (mV (v:=(.int .u64 (((p/r:Nat):Int)))) rfl (mV hs35 (rV (uR (k:=.u64) (a:=((p/r:Nat):Int)) (b:=(v2:Int)) (c:=((p/r*v2:Nat):Int)) rfl rfl ((iV (by rw[<-dH,<-hm2];omega)).trans (by rw[dH]))) (rV (kE (k:=.u64) (a:=(v1:Int)) (b:=((p/r*v2:Nat):Int)) (c:=((v1+p/r*v2:Nat):Int)) rfl rfl ((iV (by rw[<-hm2];omega)).trans oM)) (aS (v:=(.int .u64 (v1:Int))) rfl (aS (v:=(.int .u64 (v2:Int))) rfl (aS (v:=(.int .u64 (((v1+p/r*v2:Nat):Int)))) rfl (aE (cV (mV hs36 (rV (aFr rfl) (aS (v:=(.bool (!e))) rfl (aE ?_))))))))))))))))))))))))))))
   replace hx:=hx.tr (aH he40)
   replace hy:=hy.tr (aH he40)
   replace hb4:=hb4.ext he40
   refine⟨(r,p%r,u1,u2,u1+p/r*u2,v1,v2,v1+p/r*v2,!e),⟨?_,?_,?_,?_,?_,?_,?_,?_,?_,?_,?_,?_,?_,?_,?_,?_,?_,?_,?_,?_,?_,?_⟩,?_⟩
   ·exact(by repeat (first|exact G27|refine Off.st ?_ dC _))
   ·first|rfl|exact cQ oM|exact aW (by simp)
   ·first|rfl|exact cQ oM|exact aW (by simp)
   ·first|rfl|exact cQ oM|exact aW (by simp)
   ·first|rfl|exact cQ oM|exact aW (by simp)
   ·first|rfl|exact cQ oM|exact aW (by simp)
   ·first|rfl|exact cQ oM|exact aW (by simp)
   ·first|rfl|exact cQ oM|exact aW (by simp)
   ·first|rfl|exact cQ oM|exact aW (by simp)
   ·first|rfl|exact cQ oM|exact aW (by simp)
   ·exact hst.1
   ·omega
   ·omega
   ·omega
   ·rw[<-hm1];omega
   ·omega
   ·omega
   ·rw[<-hm2];omega
   ·exact hx
   ·exact hy
   ·exact hE
   ·exact hb4
   exact dM _ hr1
  refine nG ?_
  refine wsr (mV hs30 (mV hs31 (mV hs33 (mV hs34 (mV hs36 (rV (mQ (vl:=[(0,(.int .u64 (u0:Int))),(1,(.int .u64 (u1:Int))),(2,(.int .u64 (v0:Int))),(3,(.int .u64 (v1:Int))),(4,(.bool e))]) (cs:=[(.int .u64 (u0:Int)),(.int .u64 (u1:Int)),(.int .u64 (v0:Int)),(.int .u64 (v1:Int)),(.bool e)]) tB aBk rfl (bKy tB) rfl) ?_))))))
  refine fC rfl rfl (jK (cs:=[(.int .u64 (u0:Int)),(.int .u64 (u1:Int)),(.int .u64 (v0:Int)),(.int .u64 (v1:Int)),(.bool e)]) (o:=0) aBk ((G27 4 rfl).trans (hF24 4)) rfl rfl rfl (bG rfl (bG rfl (bG rfl (bG rfl (bG rfl fJ))))) hb4 bL) ?_
  rintro w41 ⟨hn42,hx43,hz44⟩
  replace hE:=hE.nb hx43 ge_b2
  replace hb4:Bk w41 b2 171 [(.int .u64 (u0:Int)),(.int .u64 (u1:Int)),(.int .u64 (v0:Int)),(.int .u64 (v1:Int)),(.bool e)]:=hn42
  refine aE ?_
  refine gH ?_
  refine⟨[(.agg #[(.int .u64 (u0:Int)),(.int .u64 (u1:Int)),(.int .u64 (v0:Int)),(.int .u64 (v1:Int)),(.bool e)])],⟨⟨_,_,[(.int .u64 (u0:Int)),(.int .u64 (u1:Int)),(.int .u64 (v0:Int)),(.int .u64 (v1:Int)),(.bool e)],((G27 4 rfl).trans (hF24 4)),⟨_,tB⟩,hb4.cells rfl,.inl ⟨bKx,⟨_,_,aBk⟩,rfl⟩⟩,trivial⟩,?_⟩
  exact⟨⟨u0,u1,v0,v1,e,rfl,hu0,hu1,hv0,hv1,λh=>hL.fin h⟩,hE⟩
 refine RL.gno rfl rfl (aW hb37) rfl dC ?_
 refine RL.gno rfl rfl (aW hb37) rfl dC ?_
 refine RL.gno rfl rfl (aW hb37) rfl dC ?_
 refine RL.gno rfl rfl (aW hb37) rfl dC ?_
 refine RL.gno rfl rfl (aW hb37) rfl dC ?_
 refine RL.gno rfl rfl (aW hb37) rfl dC ?_
 refine RL.gno rfl rfl (aW hb37) rfl dC ?_
 refine rV (mO (v:=(.bool false)) (aW hb37) rfl) (aE ?_)
 refine tE rfl ?_
 refine nG ?_
 refine wsr (mV hs30 (mV hs31 (mV hs33 (mV hs34 (mV hs36 (rV (mQ (vl:=[(0,(.int .u64 (u0:Int))),(1,(.int .u64 (u1:Int))),(2,(.int .u64 (v0:Int))),(3,(.int .u64 (v1:Int))),(4,(.bool e))]) (cs:=[(.int .u64 (u0:Int)),(.int .u64 (u1:Int)),(.int .u64 (v0:Int)),(.int .u64 (v1:Int)),(.bool e)]) tB aBk rfl (bKy tB) rfl) ?_))))))
 refine fC rfl rfl (jK (cs:=[(.int .u64 (u0:Int)),(.int .u64 (u1:Int)),(.int .u64 (v0:Int)),(.int .u64 (v1:Int)),(.bool e)]) (o:=0) aBk ((G27 4 rfl).trans (hF24 4)) rfl rfl rfl (bG rfl (bG rfl (bG rfl (bG rfl (bG rfl fJ))))) hb4 bL) ?_
 rintro w45 ⟨hn46,hx47,hz48⟩
 replace hE:=hE.nb hx47 ge_b2
 replace hb4:Bk w45 b2 171 [(.int .u64 (u0:Int)),(.int .u64 (u1:Int)),(.int .u64 (v0:Int)),(.int .u64 (v1:Int)),(.bool e)]:=hn46
 refine aE ?_
 refine gH ?_
 refine⟨[(.agg #[(.int .u64 (u0:Int)),(.int .u64 (u1:Int)),(.int .u64 (v0:Int)),(.int .u64 (v1:Int)),(.bool e)])],⟨⟨_,_,[(.int .u64 (u0:Int)),(.int .u64 (u1:Int)),(.int .u64 (v0:Int)),(.int .u64 (v1:Int)),(.bool e)],((G27 4 rfl).trans (hF24 4)),⟨_,tB⟩,hb4.cells rfl,.inl ⟨bKx,⟨_,_,aBk⟩,rfl⟩⟩,trivial⟩,?_⟩
 exact⟨⟨u0,u1,v0,v1,e,rfl,hu0,hu1,hv0,hv1,λh=>hL.fin h⟩,hE⟩
theorem zQ {w:World} {Dx:Nat->TypeId->Prop} {vx:Value} {x:List Nat} (hx0:Sg (gN .u32) Dx w vx x) (lmx:Lm x) (lnx:x.length<=549755813888) {Dy:Nat->TypeId->Prop} {vy:Value} {y:List Nat} (hy0:Sg (gN .u32) Dy w vy y) (lmy:Lm y) (lny:y.length<=549755813888) {c d:Nat} (hc:c<18446744073709551616) (hd:d<18446744073709551616):
 Calls Tryz.prog 150 #[vx,(.int .u64 (c:Int)),vy,(.int .u64 (d:Int))] w λe w'=>∃v,e= .returned v/\Sg (gN .u32) (λb T=>w.heap.size<=b/\T=131) w' v (aJ (val x*c-val y*d))/\Ext w w':=by
 have hE:Below w.heap.size w w:=Below.refl _ _
 have hx:=hx0.old
 clear hx0
 have hy:=hy0.old
 clear hy0
 have hlvx:=eO lmx
 have hlvy:=eO lmy
 refine eE (n:=24) (rs:=[.tmp 8]) func150 rfl rfl rfl bL ?_
 refine iU λF0 hF0=>?_
 refine wsr (aS (v:=(.slice none (0) (0))) rfl (aE (wsr (mV (v:=vx) (hF0 0) (mV (v:=(.int .u64 (c:Int))) (hF0 1) ?_)))))
 refine cL vU (vV oM) rfl ?_
 rintro vr3 w1 ⟨hr4,he2⟩
 replace hr4:=hr4.fr hE
 replace hE:=hE.nx he2
 have hlv5:=vT (n:=c) oM
 replace hx:=hx.tr (aH he2)
 refine cL aMl (aMn hx (by assumption) oS hr4 (cT _) oS) rfl ?_
 rintro vr8 w6 ⟨hr9,he7⟩
 try rw[cX] at hr9
 replace hr9:=hr9.fr hE
 replace hE:=hE.nx he7
 have hlv10:=eO (x:=x) (by assumption)
 have hlv11:=aFv (val x) c
 refine mV (v:=vy) (hF0 2) (mV (v:=(.int .u64 (d:Int))) (hF0 3) ?_)
 refine cL vU (vV oM) rfl ?_
 rintro vr14 w12 ⟨hr15,he13⟩
 replace hr15:=hr15.fr hE
 replace hE:=hE.nx he13
 have hlv16:=vT (n:=d) oM
 have hm21:=aB he2 (aB he7 he13)
 replace hy:=hy.tr (aH hm21)
 refine cL aMl (aMn hy (by assumption) oS hr15 (cT _) oS) rfl ?_
 rintro vr19 w17 ⟨hr20,he18⟩
 try rw[cX] at hr20
 replace hr20:=hr20.fr hE
 replace hE:=hE.nx he18
 have hlv22:=eO (x:=y) (by assumption)
 have hlv23:=aFv (val y) d
 replace hr9:=hr9.tr (aH (aB he13 he18))
 refine cL aOp (aXw hr9 (cT _) oS hr20 (cT _) oS) rfl ?_
 rintro vq28 w24 ⟨⟨vr26,hq29,hr27⟩,he25⟩
 have hlv30:=aOo ((val x)*c) ((val y)*d)
 simp only[cX] at hq29 hr27
 subst hq29
 replace hr27:=hr27.fr hE
 replace hE:=hE.nx he25
 refine mV (v:=(.tuple #[vr26,(bd (((val y)*d)<=((val x)*c)))])) rfl (rV (bZ (v:=vr26) rfl rfl) (rV (bZ (v:=(bd (((val y)*d)<=((val x)*c)))) rfl rfl) (aS (v:=vr26) rfl (aS (v:=(bd (((val y)*d)<=((val x)*c)))) rfl (aE (wsr (mV (v:=vr26) rfl (aS (v:=vr26) rfl (aE ?_)))))))))
 refine gH ?_
 refine⟨[vr26],⟨rfl,trivial⟩,?_⟩
 exact⟨hr27,hE⟩
theorem bTv {w:World} {Dx:Nat->TypeId->Prop} {vx:Value} {x:List Nat} (hx0:Sg (gN .u32) Dx w vx x) (lmx:Lm x) (lnx:x.length<=549755813888) {Dy:Nat->TypeId->Prop} {vy:Value} {y:List Nat} (hy0:Sg (gN .u32) Dy w vy y) (lmy:Lm y) (lny:y.length<=549755813888):
 Calls Tryz.prog 126 #[vx,vy] w λe w'=>∃v,e= .returned v/\Sg (gN .u32) (λb T=>w.heap.size<=b/\T=131) w' v (aJ (Nat.gcd (val x) (val y)))/\Ext w w':=by
 have hE:Below w.heap.size w w:=Below.refl _ _
 have hx:=hx0.old
 clear hx0
 have hy:=hy0.old
 clear hy0
 have hlvx:=eO lmx
 have hlvy:=eO lmy
 refine eE (n:=86) (rs:=[.tmp 4]) func126 rfl rfl rfl bL ?_
 refine iU λF0 hF0=>?_
 refine wsr (aS (v:=(.slice none (0) (0))) rfl (aE (wsr (mV (v:=vx) (hF0 0) ?_))))
 refine cL mK (pL hx (by assumption) (by first|omega|(simp;done)|(simp;omega))) rfl ?_
 rintro vr2 _ ⟨hr3,rfl⟩
 have hlv4:=eO (x:=x) (by assumption)
 refine mV (v:=vy) (hF0 1) ?_
 refine cL mK (pL hy (by assumption) (by first|omega|(simp;done)|(simp;omega))) rfl ?_
 rintro vr6 _ ⟨hr7,rfl⟩
 have hlv8:=eO (x:=y) (by assumption)
 refine aS (v:=vr2) rfl (aS (v:=vr6) rfl (aE ?_))
 refine iU λF9 hF10=>?_
 refine vN (λfl wl=>∃a:Nat,∃b:Nat,∃va:Value,∃vb:Value,Off (rg 0 2 (rg 15 6 [])) F9 fl/\fl 0=va/\fl 1=vb/\(b<=a)/\(Nat.gcd a b=Nat.gcd (val x) (val y))/\((aJ a).length<=549755813888)/\(Sg (gN .u32) (λ_ _=>True) wl va (aJ a))/\(Sg (gN .u32) (λ_ _=>True) wl vb (aJ b))/\(Sg (gN .u32) (λb T=>Dx b T/\b<w.heap.size) wl vx x)/\(Sg (gN .u32) (λb T=>Dy b T/\b<w.heap.size) wl vy y)/\(Below w.heap.size w wl)/\(Sg (gN .u32) (λb T=>Dx b T/\b<w.heap.size) wl vr2 (aJ (val x)))/\(Sg (gN .u32) (λb T=>Dy b T/\b<w.heap.size) wl vr6 (aJ (val y)))) ?_ ?_
 ·have G11:=Off.refl (rg 0 2 (rg 15 6 [])) F9
  refine wsr (mV (v:=vr2) (hF10 0) (mV (v:=vr6) (hF10 1) ?_))
  refine cL yC (qK hr3 (cT _) oS hr7 (cT _) oS) rfl ?_
  rintro vq15 w12 ⟨hq14,he13⟩
  simp only[cX] at hq14
  subst hq14
  replace hE:=hE.nx he13
  refine rV (mP (k:=.i64) (a:=cmpI (((val x):Nat):Int) (((val y):Nat):Int)) (b:=0) rfl rfl) (aE ?_)
  refine wcD (p:=(cmpI (((val x):Nat):Int) (((val y):Nat):Int))<0) rfl (λhb16 hb16p=>?_) (λhb16 hb16p=>?_)
  ·have hlt:val x<val y:=by have:=cmpI_neg.1 hb16p;omega
   refine cV (mV (v:=vr6) (hF10 1) (mV (v:=vr2) (hF10 0) (aS (v:=vr6) rfl (aS (v:=vr2) rfl (aE ?_)))))
   replace hr7:=hr7.tr (aH he13)
   replace hr3:=hr3.tr (aH he13)
   replace hx:=hx.tr (aH he13)
   replace hy:=hy.tr (aH he13)
   refine⟨(val y),(val x),vr6,vr2,?_,?_,?_,?_,?_,?_,?_,?_,?_,?_,?_,?_,?_⟩
   ·exact(by repeat (first|exact G11|refine Off.st ?_ dC _))
   ·rfl
   ·rfl
   ·omega
   ·first|rfl|exact kQ _ _
   ·omega
   ·exact hr7.mono (λ_ _ _=>trivial)
   ·exact hr3.mono (λ_ _ _=>trivial)
   ·exact hx
   ·exact hy
   ·exact hE
   ·exact hr3
   exact hr7
  have hge:val y<=val x:=by rcases eY (val x) (val y) with h|h;exact absurd (cmpI_neg.2 oM) hb16p;exact h
  refine fL ?_
  replace hr3:=hr3.tr (aH he13)
  replace hr7:=hr7.tr (aH he13)
  replace hx:=hx.tr (aH he13)
  replace hy:=hy.tr (aH he13)
  refine⟨(val x),(val y),vr2,vr6,?_,?_,?_,?_,?_,?_,?_,?_,?_,?_,?_,?_,?_⟩
  ·exact(by repeat (first|exact G11|refine Off.st ?_ dC _))
  ·refine((hF10 0)).trans ?_
   rfl
  ·refine((hF10 1)).trans ?_
   rfl
  ·omega
  ·first|rfl|exact kQ _ _
  ·omega
  ·exact hr3.mono (λ_ _ _=>trivial)
  ·exact hr7.mono (λ_ _ _=>trivial)
  ·exact hx
  ·exact hy
  ·exact hE
  ·exact hr3
  exact hr7
 clear hx hy hE hr3 hr7
 rintro f17 w18 ⟨a,b,va,vb,G19,hs20,hs21,hba,hg,hla,hA,hB,hx,hy,hE,hr3,hr7⟩
 refine dV ?_
 refine gC ?_
 refine iU λF22 hF23=>?_
 refine oP (σ:=Nat×Nat×Value×Value) (λ(s:Nat×Nat×Value×Value) fl wl=>match s with|(a,b,va,vb)=>Off (rg 0 2 (rg 4 7 (rg 21 63 []))) F22 fl/\fl 0=va/\fl 1=vb/\(b<=a)/\(Nat.gcd a b=Nat.gcd (val x) (val y))/\((aJ a).length<=549755813888)/\(Sg (gN .u32) (λ_ _=>True) wl va (aJ a))/\(Sg (gN .u32) (λ_ _=>True) wl vb (aJ b))/\(Sg (gN .u32) (λb T=>Dx b T/\b<w.heap.size) wl vx x)/\(Sg (gN .u32) (λb T=>Dy b T/\b<w.heap.size) wl vy y)/\(Below w.heap.size w wl)/\(Sg (gN .u32) (λb T=>Dx b T/\b<w.heap.size) wl vr2 (aJ (val x)))/\(Sg (gN .u32) (λb T=>Dy b T/\b<w.heap.size) wl vr6 (aJ (val y)))) (λ(s:Nat×Nat×Value×Value)=>match s with|(a,b,va,vb)=>b) (a,b,va,vb) ?_ ?_
 ·exact⟨Off.refl _ _,(hF23 0).trans ((hs20).trans rfl),(hF23 1).trans ((hs21).trans rfl),hba,hg,hla,hA,hB,hx,hy,hE,hr3,hr7⟩
 clear hx hy hE hr3 hr7 hA hB
 rintro⟨a,b,va,vb⟩ f24 w25 ⟨G26,hs27,hs28,hba,hg,hla,hA,hB,hx,hy,hE,hr3,hr7⟩
 refine dV (wsr (mV hs28 ?_))
 obtain⟨A29,c30,hv31,hc32,hc33⟩:=hB.len
 refine rV (gX eC hv31) (rV (aAf (k:=.i64) (a:=(((aJ b).length:Nat):Int)) (b:=0) rfl rfl) (aE ?_))
 refine wcD (p:=0<(((aJ b).length:Nat):Int)) rfl (λhb34 hb34p=>?_) (λhb34 hb34p=>?_)
 ·have hb0:b≠0:=λh=>by rw[h,rM] at hb34p;exact absurd hb34p dC
  have hll:(aJ b).length<=(aJ a).length:=gO hba
  refine fL ?_
  refine gC ?_
  refine dV (wsr (mV hs27 ?_))
  obtain⟨A35,c36,hv37,hc38,hc39⟩:=hA.len
  refine rV (gX eC hv37) (rV (aWo (k:=.i64) (a:=(((aJ a).length:Nat):Int)) (b:=2) rfl rfl) (aE ?_))
  refine wcD (p:=(((aJ a).length:Nat):Int)<=2) rfl (λhb40 hb40p=>?_) (λhb40 hb40p=>?_)
  ·have ha64:=rW.2 (show len a<=2 by unfold len;omega)
   refine wsr (mV hs27 ?_)
   refine cL aGa (aGb hA (cT _) oM) rfl ?_
   rintro vq43 _ ⟨hq42,rfl⟩
   rw[cX] at hq42
   subst hq42
   refine mV hs28 ?_
   refine cL aGa (aGb hB (cT _) oM) rfl ?_
   rintro vq46 _ ⟨hq45,rfl⟩
   rw[cX] at hq45
   subst hq45
   refine aS (v:=(.int .u64 (a:Int))) rfl (aS (v:=(.int .u64 (b:Int))) rfl (aE (dV ?_)))
   refine gC ?_
   refine iU λF47 hF48=>?_
   refine oP (σ:=Nat×Nat) (λ(s:Nat×Nat) fl wl=>match s with|(c,d)=>Off (rg 5 2 (rg 31 6 [])) F47 fl/\fl 5=(.int .u64 (c:Int))/\fl 6=(.int .u64 (d:Int))/\(Nat.gcd c d=Nat.gcd (val x) (val y))/\(c<18446744073709551616)/\(d<18446744073709551616)/\(Sg (gN .u32) (λb T=>Dx b T/\b<w.heap.size) wl vx x)/\(Sg (gN .u32) (λb T=>Dy b T/\b<w.heap.size) wl vy y)/\(Below w.heap.size w wl)/\(Sg (gN .u32) (λb T=>Dx b T/\b<w.heap.size) wl vr2 (aJ (val x)))/\(Sg (gN .u32) (λb T=>Dy b T/\b<w.heap.size) wl vr6 (aJ (val y)))/\(Sg (gN .u32) (λ_ _=>True) wl va (aJ a))/\(Sg (gN .u32) (λ_ _=>True) wl vb (aJ b))) (λ(s:Nat×Nat)=>match s with|(c,d)=>d) (a,b) ?_ ?_
   ·exact⟨Off.refl _ _,(hF48 5).trans (rfl),(hF48 6).trans (rfl),hg,ha64,by omega,hx,hy,hE,hr3,hr7,hA,hB⟩
   clear hx hy hE hr3 hr7 hA hB
   rintro⟨c,d⟩ f49 w50 ⟨G51,hs52,hs53,hcd,hc64,hd64,hx,hy,hE,hr3,hr7,hA,hB⟩
   refine dV (wsr (mV hs53 (rV (xO (k:=.u64) (a:=(d:Int)) (b:=0) rfl rfl) (aE ?_))))
   refine wcD (p:=(d:Int)≠0) rfl (λhb54 hb54p=>?_) (λhb54 hb54p=>?_)
   ·have hd0:d≠0:=by omega
    have hdm:=dM c (show 0<d by omega)
    refine fL ?_
    refine gC ?_
    refine oQ pJ λw55 he56=>?_
    replace hE:=hE.nx he56
    refine aM 0 rfl (v:=(.int .u64 (d:Int))) hs53 ?_
    refine aM 1 rfl (v:=(.int .u64 (c:Int))) hs52 ?_
    refine aM 2 rfl (v:=(.int .u64 (d:Int))) hs53 ?_
    refine ra 3 rfl (λ_=>aDz (k:=.u64) (a:=(c:Int)) (b:=(d:Int)) (c:=((c%d:Nat):Int)) rfl rfl oM (aVg _ _)) ?_
    refine aA 4 rfl (v:=(.int .u64 (d:Int))) rfl ?_
    refine aA 5 rfl (v:=(.int .u64 (((c%d:Nat):Int)))) rfl ?_
    refine RA.done kR ?_
    replace hx:=hx.tr (aH he56)
    replace hy:=hy.tr (aH he56)
    replace hr3:=hr3.tr (aH he56)
    replace hr7:=hr7.tr (aH he56)
    replace hA:=hA.tr (aH he56)
    replace hB:=hB.tr (aH he56)
    refine⟨(d,c%d),⟨?_,?_,?_,?_,?_,?_,?_,?_,?_,?_,?_,?_,?_⟩,?_⟩
    ·exact(by repeat (first|exact G51|refine Off.st ?_ dC _|refine Off.via G26 dC ?_|refine Off.eq hF23 ?_|refine Off.via G19 dC ?_|refine Off.eq hF10 ?_))
    ·first|rfl|exact cQ oM|exact aW (by simp)
    ·first|rfl|exact cQ oM|exact aW (by simp)
    ·rw[<-hcd,kQ,<-zK,kQ]
    ·omega
    ·omega
    ·exact hx
    ·exact hy
    ·exact hE
    ·exact hr3
    ·exact hr7
    ·exact hA
    ·exact hB
    (try dsimp only)
    omega
   have hd0:d=0:=by omega
   refine nG ?_
   refine wsr (mV hs52 ?_)
   refine cL vU (vV oM) rfl ?_
   rintro vr59 w57 ⟨hr60,he58⟩
   replace hr60:=hr60.fr hE
   replace hE:=hE.nx he58
   have hlv61:=vT (n:=c) oM
   refine aS (v:=vr59) rfl (aE ?_)
   refine gH ?_
   refine⟨[vr59],⟨rfl,trivial⟩,?_⟩
   rw[hd0,qG] at hcd
   rw[<-hcd]
   exact⟨hr60,hE⟩
  refine fL ?_
  refine wsr (mV hs27 (mV hs28 ?_))
  refine cL bMp (aVn hA (cT _) oM hB (cT _) oM oM (aYb oM) (gO hba) (by rw[cX,cX];exact hba)) rfl ?_
  rintro _ w62 ⟨⟨u0,u1,v0,v1,e,rfl,hu0,hu1,hv0,hv1,hfn⟩,he63⟩
  simp only[cX] at hfn
  replace hE:=hE.nx he63
  refine rU (jA (cs:=[(.int .u64 0),(.int .u64 0),(.int .u64 0),(.int .u64 0),(.bool false)]) aBk rfl) ?_
  rintro _ w64 ⟨b65,rfl,hs68,hb67,he66⟩
  have ge_b65:=hE.ge hs68
  refine fC rfl rfl (jK (cs:=[(.int .u64 (u0:Int)),(.int .u64 (u1:Int)),(.int .u64 (v0:Int)),(.int .u64 (v1:Int)),(.bool e)]) (o:=0) aBk rfl rfl rfl rfl (bG rfl (bG rfl (bG rfl (bG rfl (bG rfl fJ))))) hb67 bL) ?_
  rintro w69 ⟨hn70,hx71,hz72⟩
  replace hE:=(hE.nx he66).nb hx71 ge_b65
  have nb_hx71:=(Nb.of hb67 (cH rfl (cH rfl (cH rfl (cH rfl (cH rfl iL))))))
  replace hb67:Bk w69 b65 171 [(.int .u64 (u0:Int)),(.int .u64 (u1:Int)),(.int .u64 (v0:Int)),(.int .u64 (v1:Int)),(.bool e)]:=hn70
  refine aE (dV (wsr (rV (cI tB rfl aJi rfl) ?_)))
  have hc73:=hb67.cell (j:=2) (u:=(.int .u64 (v0:Int))) rfl
  refine rV (dJ jE aJj rfl hc73) (rV (tA (k:=.u64) (a:=(v0:Int)) (b:=0) rfl rfl) (aE ?_))
  refine wcD (p:=(v0:Int)=0) rfl (λhb74 hb74p=>?_) (λhb74 hb74p=>?_)
  ·refine wsr ?_
   refine mV hs27 (mV hs28 ?_)
   replace hA:=(hA.tr (aH (aB he63 he66))).apn hx71 nb_hx71
   replace hB:=(hB.tr (aH (aB he63 he66))).apn hx71 nb_hx71
   refine cL aFz (yD hA (cT _) oS hB (cT _) oS) rfl ?_
   rintro vv81 w75 ⟨⟨vq77,vr79,hv82,hq78,hr80⟩,he76⟩
   simp only[cX] at hv82 hq78 hr80
   subst hv82
   have hlv83:=aFw a b
   have hlv84:=aBj a b
   have hlv85:=yB a b
   replace hq78:=hq78.fr hE
   replace hr80:=hr80.fr hE
   replace hE:=hE.nx he76
   refine mV (v:=(.tuple #[vq77,vr79,(bd (b≠0))])) rfl (rV (bZ (v:=vq77) rfl rfl) (rV (bZ (v:=vr79) rfl rfl) (rV (bZ (v:=(bd (b≠0))) rfl rfl) (aS (v:=vq77) rfl (aS (v:=vr79) rfl (aS (v:=(bd (b≠0))) rfl (aE (wsr (mV hs28 (mV (v:=vr79) rfl (aS (v:=vb) rfl (aS (v:=vr79) rfl (aE ?_)))))))))))))
   refine nG ?_
   replace hB:=hB.tr (aH he76)
   replace hx:=((hx.tr (aH (aB he63 he66))).tr (Sm.exc hx71 (λ_ _ _ _ hd=>absurd hd.2 (bS ge_b65)))).tr (aH he76)
   replace hy:=((hy.tr (aH (aB he63 he66))).tr (Sm.exc hx71 (λ_ _ _ _ hd=>absurd hd.2 (bS ge_b65)))).tr (aH he76)
   replace hr3:=((hr3.tr (aH (aB he63 he66))).tr (Sm.exc hx71 (λ_ _ _ _ hd=>absurd hd.2 (bS ge_b65)))).tr (aH he76)
   replace hr7:=((hr7.tr (aH (aB he63 he66))).tr (Sm.exc hx71 (λ_ _ _ _ hd=>absurd hd.2 (bS ge_b65)))).tr (aH he76)
   refine⟨(b,(vS a b),vb,vr79),⟨?_,?_,?_,?_,?_,?_,?_,?_,?_,?_,?_,?_,?_⟩,?_⟩
   ·exact(by repeat (first|exact G26|refine Off.st ?_ dC _|refine Off.via G19 dC ?_|refine Off.eq hF10 ?_))
   ·first|rfl|exact cQ oM|exact aW (by simp)
   ·first|rfl|exact cQ oM|exact aW (by simp)
   ·rw[show vS a b=a%b from if_neg hb0];exact gQ (dM _ oM)
   ·rw[<-hg,show vS a b=a%b from if_neg hb0,kQ,<-zK,kQ]
   ·omega
   ·exact hB.mono (λ_ _ _=>trivial)
   ·exact hr80.mono (λ_ _ _=>trivial)
   ·exact hx
   ·exact hy
   ·exact hE
   ·exact hr3
   ·exact hr7
   (try dsimp only)
   first|(rw[show vS a b=a%b from if_neg hb0];exact dM _ oM)|exact bH hf.2.2.2.1 hf.2.2.2.2
  have hv0n:v0≠0:=by omega
  refine fL ?_
  refine wsr (rV (cI tB rfl ty4 rfl) ?_)
  have hc86:=hb67.cell (j:=4) (u:=(.bool e)) rfl
  refine rV (dJ uT4 ag4 rfl hc86) (aE ?_)
  refine uQ (b:=e) rfl (λhb87=>?_) (λhb87=>?_)
  ·have hb87p:=hb87
   have hf:=(hfn hv0n).1 hb87
   rw[bO u0,bO v0,bO v1,bO u1] at hf
   refine oQ pJ λw88 he89=>?_
   replace hE:=hE.nx he89
   refine aM 0 rfl (v:=va) hs27 ?_
   refine ra 1 rfl (λ_=>cI tB rfl aJi rfl) ?_
   replace hb67:=hb67.ext he89
   have hc90:=hb67.cell (j:=0) (u:=(.int .u64 (u0:Int))) rfl
   refine aR 2 rfl (λu hu=>dJ jE aJj rfl (fH hu hc90)) ?_
   refine aM 3 rfl (v:=vb) hs28 ?_
   refine ra 4 rfl (λ_=>cI tB rfl aJi rfl) ?_
   have hc91:=hb67.cell (j:=2) (u:=(.int .u64 (v0:Int))) rfl
   refine aR 5 rfl (λu hu=>dJ jE aJj rfl (fH hu hc91)) ?_
   refine aM 7 rfl (v:=vb) hs28 ?_
   refine ra 8 rfl (λ_=>cI tB rfl aJi rfl) ?_
   have hc92:=hb67.cell (j:=3) (u:=(.int .u64 (v1:Int))) rfl
   refine aR 9 rfl (λu hu=>dJ jE aJj rfl (fH hu hc92)) ?_
   refine aM 10 rfl (v:=va) hs27 ?_
   refine ra 11 rfl (λ_=>cI tB rfl aJi rfl) ?_
   have hc93:=hb67.cell (j:=1) (u:=(.int .u64 (u1:Int))) rfl
   refine aR 12 rfl (λu hu=>dJ jE aJj rfl (fH hu hc93)) ?_
   refine RA.all [6] kR rfl ?_
   replace hA:=((hA.tr (aH (aB he63 he66))).apn hx71 nb_hx71).tr (aH he89)
   replace hB:=((hB.tr (aH (aB he63 he66))).apn hx71 nb_hx71).tr (aH he89)
   refine cS aJl (zQ hA (cT _) oS hB (cT _) oS oM oM) rfl rfl ?_ RS.nil
   rintro vr96 w94 ⟨hr97,he95⟩
   refine rm he95 ?_
   try rw[cX] at hr97
   try rw[cX] at hr97
   replace hr97:=hr97.fr hE
   replace hE:=hE.nx he95
   refine RA.all [13] kR rfl ?_
   replace hB:=hB.tr (aH he95)
   replace hA:=hA.tr (aH he95)
   refine cS aJl (zQ hB (cT _) oS hA (cT _) oS oM oM) rfl rfl ?_ RS.nil
   rintro vr100 w98 ⟨hr101,he99⟩
   refine rm he99 ?_
   try rw[cX] at hr101
   try rw[cX] at hr101
   replace hr101:=hr101.fr hE
   replace hE:=hE.nx he99
   refine aA 14 rfl (v:=vr96) rfl ?_
   refine aA 15 rfl (v:=vr100) rfl ?_
   refine RA.done kR ?_
   replace hr97:=hr97.tr (aH he99)
   have hm102:=aB he89 (aB he95 he99)
   replace hx:=((hx.tr (aH (aB he63 he66))).tr (Sm.exc hx71 (λ_ _ _ _ hd=>absurd hd.2 (bS ge_b65)))).tr (aH hm102)
   replace hy:=((hy.tr (aH (aB he63 he66))).tr (Sm.exc hx71 (λ_ _ _ _ hd=>absurd hd.2 (bS ge_b65)))).tr (aH hm102)
   replace hr3:=((hr3.tr (aH (aB he63 he66))).tr (Sm.exc hx71 (λ_ _ _ _ hd=>absurd hd.2 (bS ge_b65)))).tr (aH hm102)
   replace hr7:=((hr7.tr (aH (aB he63 he66))).tr (Sm.exc hx71 (λ_ _ _ _ hd=>absurd hd.2 (bS ge_b65)))).tr (aH hm102)
   refine⟨((a*u0-b*v0),(b*v1-a*u1),vr96,vr100),⟨?_,?_,?_,?_,?_,?_,?_,?_,?_,?_,?_,?_,?_⟩,?_⟩
   ·exact(by repeat (first|exact G26|refine Off.st ?_ dC _|refine Off.via G19 dC ?_|refine Off.eq hF10 ?_))
   ·first|rfl|exact cQ oM|exact aW (by simp)
   ·first|rfl|exact cQ oM|exact aW (by simp)
   ·exact gQ hf.2.2.2.1
   ·exact hf.2.2.1.trans hg
   ·exact bA (gO (bA hf.2.2.2.2 hba)) hla
   ·exact hr97.mono (λ_ _ _=>trivial)
   ·exact hr101.mono (λ_ _ _=>trivial)
   ·exact hx
   ·exact hy
   ·exact hE
   ·exact hr3
   ·exact hr7
   (try dsimp only)
   first|(rw[show vS a b=a%b from if_neg hb0];exact dM _ oM)|exact bH hf.2.2.2.1 hf.2.2.2.2
  have hb87p:=hb87
  have hf:=(hfn hv0n).2 hb87
  rw[bO u0,bO v0,bO v1,bO u1] at hf
  refine oQ pJ λw103 he104=>?_
  replace hE:=hE.nx he104
  refine aM 0 rfl (v:=vb) hs28 ?_
  refine ra 1 rfl (λ_=>cI tB rfl aJi rfl) ?_
  replace hb67:=hb67.ext he104
  have hc105:=hb67.cell (j:=2) (u:=(.int .u64 (v0:Int))) rfl
  refine aR 2 rfl (λu hu=>dJ jE aJj rfl (fH hu hc105)) ?_
  refine aM 3 rfl (v:=va) hs27 ?_
  refine ra 4 rfl (λ_=>cI tB rfl aJi rfl) ?_
  have hc106:=hb67.cell (j:=0) (u:=(.int .u64 (u0:Int))) rfl
  refine aR 5 rfl (λu hu=>dJ jE aJj rfl (fH hu hc106)) ?_
  refine aM 7 rfl (v:=va) hs27 ?_
  refine ra 8 rfl (λ_=>cI tB rfl aJi rfl) ?_
  have hc107:=hb67.cell (j:=1) (u:=(.int .u64 (u1:Int))) rfl
  refine aR 9 rfl (λu hu=>dJ jE aJj rfl (fH hu hc107)) ?_
  refine aM 10 rfl (v:=vb) hs28 ?_
  refine ra 11 rfl (λ_=>cI tB rfl aJi rfl) ?_
  have hc108:=hb67.cell (j:=3) (u:=(.int .u64 (v1:Int))) rfl
  refine aR 12 rfl (λu hu=>dJ jE aJj rfl (fH hu hc108)) ?_
  refine RA.all [6] kR rfl ?_
  replace hB:=((hB.tr (aH (aB he63 he66))).apn hx71 nb_hx71).tr (aH he104)
  replace hA:=((hA.tr (aH (aB he63 he66))).apn hx71 nb_hx71).tr (aH he104)
  refine cS aJl (zQ hB (cT _) oS hA (cT _) oS oM oM) rfl rfl ?_ RS.nil
  rintro vr111 w109 ⟨hr112,he110⟩
  refine rm he110 ?_
  try rw[cX] at hr112
  try rw[cX] at hr112
  replace hr112:=hr112.fr hE
  replace hE:=hE.nx he110
  refine RA.all [13] kR rfl ?_
  replace hA:=hA.tr (aH he110)
  replace hB:=hB.tr (aH he110)
  refine cS aJl (zQ hA (cT _) oS hB (cT _) oS oM oM) rfl rfl ?_ RS.nil
  rintro vr115 w113 ⟨hr116,he114⟩
  refine rm he114 ?_
  try rw[cX] at hr116
  try rw[cX] at hr116
  replace hr116:=hr116.fr hE
  replace hE:=hE.nx he114
  refine aA 14 rfl (v:=vr111) rfl ?_
  refine aA 15 rfl (v:=vr115) rfl ?_
  refine RA.done kR ?_
  replace hr112:=hr112.tr (aH he114)
  have hm117:=aB he104 (aB he110 he114)
  replace hx:=((hx.tr (aH (aB he63 he66))).tr (Sm.exc hx71 (λ_ _ _ _ hd=>absurd hd.2 (bS ge_b65)))).tr (aH hm117)
  replace hy:=((hy.tr (aH (aB he63 he66))).tr (Sm.exc hx71 (λ_ _ _ _ hd=>absurd hd.2 (bS ge_b65)))).tr (aH hm117)
  replace hr3:=((hr3.tr (aH (aB he63 he66))).tr (Sm.exc hx71 (λ_ _ _ _ hd=>absurd hd.2 (bS ge_b65)))).tr (aH hm117)
  replace hr7:=((hr7.tr (aH (aB he63 he66))).tr (Sm.exc hx71 (λ_ _ _ _ hd=>absurd hd.2 (bS ge_b65)))).tr (aH hm117)
  refine⟨((b*v0-a*u0),(a*u1-b*v1),vr111,vr115),⟨?_,?_,?_,?_,?_,?_,?_,?_,?_,?_,?_,?_,?_⟩,?_⟩
  ·exact(by repeat (first|exact G26|refine Off.st ?_ dC _|refine Off.via G19 dC ?_|refine Off.eq hF10 ?_))
  ·first|rfl|exact cQ oM|exact aW (by simp)
  ·first|rfl|exact cQ oM|exact aW (by simp)
  ·exact gQ hf.2.2.2.1
  ·exact hf.2.2.1.trans hg
  ·exact bA (gO (bA hf.2.2.2.2 hba)) hla
  ·exact hr112.mono (λ_ _ _=>trivial)
  ·exact hr116.mono (λ_ _ _=>trivial)
  ·exact hx
  ·exact hy
  ·exact hE
  ·exact hr3
  ·exact hr7
  (try dsimp only)
  first|(rw[show vS a b=a%b from if_neg hb0];exact dM _ oM)|exact bH hf.2.2.2.1 hf.2.2.2.2
 have hb0:b=0:=kZ.1 (by unfold len;omega)
 refine nG ?_
 refine wsr (mV hs27 ?_)
 refine cL aJk (n_trim hA (cT _) oS) rfl ?_
 rintro vr120 w118 ⟨hr121,he119⟩
 try rw[cX] at hr121
 replace hr121:=hr121.fr hE
 replace hE:=hE.nx he119
 refine aS (v:=vr120) rfl (aE ?_)
 refine gH ?_
 refine⟨[vr120],⟨rfl,trivial⟩,?_⟩
 rw[hb0,qG] at hg
 rw[<-hg]
 exact⟨hr121,hE⟩
theorem aYe {a b:Int} (h:Int.sign a<Int.sign b):a<b:=by
 rcases gW a 0 with h1|h1|h1<;>rcases gW b 0 with h2|h2|h2<;>simp[h1,h2,fO,gJ] at h<;>omega
theorem bHh {a b:Int} (h1:¬Int.sign a<Int.sign b) (h2:¬Int.sign b<Int.sign a):(Int.sign a<0->cmpI ((b.natAbs:Nat):Int) ((a.natAbs:Nat):Int)=cmpI a b)/\(¬Int.sign a<0->cmpI ((a.natAbs:Nat):Int) ((b.natAbs:Nat):Int)=cmpI a b):=by
 have e:Int.sign a=Int.sign b:=by omega
 rcases gW a 0 with g1|g1|g1<;>rcases gW b 0 with g2|g2|g2<;>simp[g1,g2,fO,gJ] at e ⊢<;>(unfold cmpI;(repeat split)<;>omega)
theorem tV {w:World} {sx:Bool} {D:Nat->TypeId->Prop} {vx:Value} {n:Nat} (hx:Sg (gN .u32) D w vx (aJ n)) {zx:Int} (ex:sg sx n=zx):
 Calls Tryz.prog 128 #[(.bool sx),vx] w λe w'=>∃v,e= .returned v/\v= .agg #[.bool (decide (zx<0)),vx]/\Ext w w':=by
 have hE:Below w.heap.size w w:=Below.refl _ _
 refine eE (n:=13) (rs:=[.cell 4 49]) func128 rfl rfl rfl bL ?_
 refine iU λF0 hF0=>?_
 refine wsr ?_
 refine rU (jA (cs:=[(.bool false),(.slice none 0 0)]) iB rfl) ?_
 rintro _ w1 ⟨b2,rfl,hs5,hb4,he3⟩
 have ge_b2:=hE.ge hs5
 replace hE:=hE.nx he3
 refine aE (wsr (mV (v:=(.bool sx)) (hF0 0) (mV (v:=(.bool sx)) rfl ?_)))
 rcases iJ (sx) with hb6|hb6
 ·have hb6p:=hb6
  have hsx:sx=true:=hb6
  refine RL.gval rfl rfl (aW hb6) rfl dC (gS (v:=vx) (hF0 1)) ?_
  obtain⟨A7,c8,hv9,hc10,hc11⟩:=hx.len
  refine RL.gval rfl rfl (aW hb6) rfl dC (gX eC hv9) ?_
  refine RL.gval rfl rfl (aW hb6) rfl dC (aAf (k:=.i64) (a:=(((aJ n).length:Nat):Int)) (b:=0) rfl rfl) ?_
  refine rV (kT (v:=(bd (0<(((aJ n).length:Nat):Int)))) (aW hb6) rfl) (mV (v:=vx) (hF0 1) (rV (mQ (vl:=[(0,(bd (0<(((aJ n).length:Nat):Int)))),(1,vx)]) (cs:=[(bd (0<(((aJ n).length:Nat):Int))),vx]) iK iB rfl (aMk iK) (by obtain⟨_,_,e0_,-,-⟩:=hx.len;simp only[e0_];rfl)) ?_))
  refine fC rfl rfl (jK (cs:=[(bd (0<(((aJ n).length:Nat):Int))),vx]) (o:=0) iB rfl rfl rfl rfl (bG rfl (bG hx.one fJ)) hb4 bL) ?_
  rintro w12 ⟨hn13,hx14,hz15⟩
  replace hE:=hE.nb hx14 ge_b2
  replace hb4:Bk w12 b2 49 [(bd (0<(((aJ n).length:Nat):Int))),vx]:=hn13
  refine aE ?_
  refine gH ?_
  refine⟨[(.agg #[(bd (0<(((aJ n).length:Nat):Int))),vx])],⟨⟨_,_,[(bd (0<(((aJ n).length:Nat):Int))),vx],rfl,⟨_,iK⟩,hb4.cells rfl,.inl ⟨rG,⟨_,_,iB⟩,rfl⟩⟩,trivial⟩,?_⟩
  exact⟨bTm (cAm ex hsx),hE⟩
 have hb6p:=hb6
 have hsx:sx=false:=hb6
 refine RL.gno rfl rfl (aW hb6) rfl dC ?_
 refine RL.gno rfl rfl (aW hb6) rfl dC ?_
 refine RL.gno rfl rfl (aW hb6) rfl dC ?_
 refine rV (mO (v:=(.bool false)) (aW hb6) rfl) (mV (v:=vx) (hF0 1) (rV (mQ (vl:=[(0,(.bool false)),(1,vx)]) (cs:=[(.bool false),vx]) iK iB rfl (aMk iK) (by obtain⟨_,_,e0_,-,-⟩:=hx.len;simp only[e0_];rfl)) ?_))
 refine fC rfl rfl (jK (cs:=[(.bool false),vx]) (o:=0) iB rfl rfl rfl rfl (bG rfl (bG hx.one fJ)) hb4 bL) ?_
 rintro w16 ⟨hn17,hx18,hz19⟩
 replace hE:=hE.nb hx18 ge_b2
 replace hb4:Bk w16 b2 49 [(.bool false),vx]:=hn17
 refine aE ?_
 refine gH ?_
 refine⟨[(.agg #[(.bool false),vx])],⟨⟨_,_,[(.bool false),vx],rfl,⟨_,iK⟩,hb4.cells rfl,.inl ⟨rG,⟨_,_,iB⟩,rfl⟩⟩,trivial⟩,?_⟩
 exact⟨bTm (cAn ex hsx),hE⟩
theorem bNb {w:World} {sx:Bool} {Dx:Nat->TypeId->Prop} {vx:Value} {x:List Nat} (hx:Sg (gN .u32) Dx w vx x) (lmx:Lm x) (lnx:x.length<=274877906944) {zx:Int} (ex:sg sx (val x)=zx):
 Calls Tryz.prog 124 #[(.agg #[(.bool sx),vx])] w λe w'=>∃v,e= .returned v/\(∃vr,v= .agg #[.bool (decide (zx<0)),vr]/\Sg (gN .u32) (λb T=>w.heap.size<=b/\T=131) w' vr (aJ zx.natAbs)/\(aJ zx.natAbs).length<=x.length)/\Ext w w':=by
 have hE:Below w.heap.size w w:=Below.refl _ _
 have hlzx:=wF lmx ex
 refine eE (n:=9) (rs:=[.cell 2 49]) func124 rfl rfl rfl bL ?_
 refine iU λF0 hF0=>?_
 refine wsr ?_
 refine rU (qT (cs:=[(.bool sx),vx]) (hF0 0) rfl) ?_
 rintro _ w1 ⟨b2,rfl,hs5,hb4,he3⟩
 have ge_b2:=hE.ge hs5
 replace hE:=hE.nx he3
 refine rU (jA (cs:=[(.bool false),(.slice none 0 0)]) iB rfl) ?_
 rintro _ w6 ⟨b7,rfl,hs10,hb9,he8⟩
 have lt_b2_b7:=cG hb4.lt hs10.symm
 have ge_b7:=hE.ge hs10
 refine aE (dV ?_)
 refine oQ pJ λw11 he12=>?_
 replace hE:=(hE.nx he8).nx he12
 refine ra 0 rfl (λ_=>cI iK rfl ty4 rfl) ?_
 replace hb4:=hb4.ext (aB he8 he12)
 have hc13:=hb4.cell (j:=0) (u:=(.bool sx)) rfl
 refine aR 1 rfl (λu hu=>dJ uT4 ag4 rfl (fH hu hc13)) ?_
 refine ra 2 rfl (λ_=>cI iK rfl sF rfl) ?_
 have hc14:=hb4.cell (j:=1) (u:=vx) rfl
 refine aR 3 rfl (λu hu=>dJ eC tF rfl (fH hu hc14)) ?_
 refine RA.all [4] kR rfl ?_
 have hm19:=aB he3 (aB he8 he12)
 replace hx:=hx.tr (aH hm19)
 refine cS aJk (n_trim hx (by assumption) oS) rfl rfl ?_ RS.nil
 rintro vr17 w15 ⟨hr18,he16⟩
 refine rm he16 ?_
 replace hr18:=hr18.fr hE
 have hlt20:(aJ (val x)).length<=x.length:=lS (by assumption)
 refine RA.all [5] kR rfl ?_
 refine cS aAr (tV (n:=(val x)) hr18 (show sg sx (val x)=zx from ex)) rfl rfl ?_ RS.nil
 rintro _ w21 ⟨rfl,he22⟩
 refine rm he22 ?_
 have hq23:=aAq (show sg sx (val x)=zx from ex)
 have hlv24:(aJ zx.natAbs).length=(aJ (val x)).length:=by rw[hq23]
 replace hr18:=hr18.tr (aH he22)
 rw[hq23] at hr18
 refine RA.all [6] kR rfl ?_
 have hm29:=aB he12 (aB he16 he22)
 replace hb9:=hb9.ext hm29
 refine RS.runs rfl rfl rfl (jK (cs:=[(bd (zx<0)),vr17]) (o:=0) iB rfl rfl rfl rfl (bG rfl (bG hr18.one fJ)) hb9 bL) ?_ RS.nil
 rintro w25 ⟨hn26,hx27,hz28⟩
 refine⟨.inr (.inl kR),?_⟩
 replace hE:=((hE.nx he16).nx he22).nb hx27 ge_b7
 have nb_hx27:=(Nb.of hb9 (cH rfl (cH rfl iL)))
 replace hb9:Bk w25 b7 49 [(bd (zx<0)),vr17]:=hn26
 refine RA.done kR ?_
 refine gH ?_
 refine⟨[(.agg #[(bd (zx<0)),vr17])],⟨⟨_,_,[(bd (zx<0)),vr17],rfl,⟨_,iK⟩,hb9.cells rfl,.inl ⟨rG,⟨_,_,iB⟩,rfl⟩⟩,trivial⟩,?_⟩
 replace hr18:=hr18.apn hx27 nb_hx27
 exact⟨⟨_,rfl,hr18,oM⟩,hE⟩
theorem aMq {w:World} {sx:Bool} {Dx:Nat->TypeId->Prop} {vx:Value} {x:List Nat} (hx:Sg (gN .u32) Dx w vx x) (lmx:Lm x) (lnx:x.length<=274877906944) {zx:Int} (ex:sg sx (val x)=zx) {sy:Bool} {Dy:Nat->TypeId->Prop} {vy:Value} {y:List Nat} (hy:Sg (gN .u32) Dy w vy y) (lmy:Lm y) (lny:y.length<=274877906944) {zy:Int} (ey:sg sy (val y)=zy):
 Calls Tryz.prog 121 #[(.agg #[(.bool sx),vx]),(.agg #[(.bool sy),vy])] w λe w'=>∃v,e= .returned v/\(∃vr,v= .agg #[.bool (decide ((zx+zy)<0)),vr]/\Sg (gN .u32) (λb T=>w.heap.size<=b/\T=131) w' vr (aJ (zx+zy).natAbs)/\(aJ (zx+zy).natAbs).length<=max x.length y.length+1)/\Ext w w':=by
 have hE:Below w.heap.size w w:=Below.refl _ _
 have hlzx:=wF lmx ex
 have hlzy:=wF lmy ey
 refine eE (n:=47) (rs:=[.cell 4 49]) func121 rfl rfl rfl bL ?_
 refine iU λF0 hF0=>?_
 refine wsr ?_
 refine rU (qT (cs:=[(.bool sx),vx]) (hF0 0) rfl) ?_
 rintro _ w1 ⟨b2,rfl,hs5,hb4,he3⟩
 have ge_b2:=hE.ge hs5
 replace hE:=hE.nx he3
 refine rU (qT (cs:=[(.bool sy),vy]) (hF0 1) rfl) ?_
 rintro _ w6 ⟨b7,rfl,hs10,hb9,he8⟩
 have lt_b2_b7:=cG hb4.lt hs10.symm
 have ge_b7:=hE.ge hs10
 replace hE:=hE.nx he8
 refine rU (jA (cs:=[(.bool false),(.slice none 0 0)]) iB rfl) ?_
 rintro _ w11 ⟨b12,rfl,hs15,hb14,he13⟩
 have lt_b7_b12:=cG hb9.lt hs15.symm
 have ge_b12:=hE.ge hs15
 replace hE:=hE.nx he13
 refine aE (dV (wsr (rV (cI iK rfl ty4 rfl) ?_)))
 replace hb4:=hb4.ext (aB he8 he13)
 have hc16:=hb4.cell (j:=0) (u:=(.bool sx)) rfl
 refine rV (dJ uT4 ag4 rfl hc16) (rV (cI iK rfl ty4 rfl) ?_)
 replace hb9:=hb9.ext he13
 have hc17:=hb9.cell (j:=0) (u:=(.bool sy)) rfl
 refine rV (dJ uT4 ag4 rfl hc17) (rV (aWp uT4 rfl rfl) (aE ?_))
 refine uQ (b:=sx==sy) rfl (λhb18=>?_) (λhb18=>?_)
 ·have hb18p:=hb18
  have hs:sx=sy:=by simpa using hb18
  refine dV ?_
  refine oQ pJ λw19 he20=>?_
  replace hE:=hE.nx he20
  refine ra 0 rfl (λ_=>cI iK rfl ty4 rfl) ?_
  replace hb4:=hb4.ext he20
  have hc21:=hb4.cell (j:=0) (u:=(.bool sx)) rfl
  refine aR 1 rfl (λu hu=>dJ uT4 ag4 rfl (fH hu hc21)) ?_
  refine ra 2 rfl (λ_=>cI iK rfl sF rfl) ?_
  have hc22:=hb4.cell (j:=1) (u:=vx) rfl
  refine aR 3 rfl (λu hu=>dJ eC tF rfl (fH hu hc22)) ?_
  refine ra 4 rfl (λ_=>cI iK rfl sF rfl) ?_
  replace hb9:=hb9.ext he20
  have hc23:=hb9.cell (j:=1) (u:=vy) rfl
  refine aR 5 rfl (λu hu=>dJ eC tF rfl (fH hu hc23)) ?_
  refine RA.all [6] kR rfl ?_
  have hm28:=aB he3 (aB he8 (aB he13 he20))
  replace hx:=hx.tr (aH hm28)
  replace hy:=hy.tr (aH hm28)
  refine cS bMo (bTr hx (by assumption) oS hy (by assumption) oS) rfl rfl ?_ RS.nil
  rintro vr26 w24 ⟨hr27,he25⟩
  refine rm he25 ?_
  replace hr27:=hr27.fr hE
  have hlv29:=eO (x:=x) (by assumption)
  have hlv30:=eO (x:=y) (by assumption)
  have hlv31:=bMi (val x) (val y)
  refine RA.all [7] kR rfl ?_
  refine cS aAr (tV (n:=((val x)+(val y))) hr27 (show sg sx ((val x)+(val y))=zx+zy from (by rw[sg_add,ex,hs,ey]))) rfl rfl ?_ RS.nil
  rintro _ w32 ⟨rfl,he33⟩
  refine rm he33 ?_
  have hq34:=aAq (show sg sx ((val x)+(val y))=zx+zy from (by rw[sg_add,ex,hs,ey]))
  have hlv35:(aJ (zx+zy).natAbs).length=(aJ ((val x)+(val y))).length:=by rw[hq34]
  replace hr27:=hr27.tr (aH he33)
  rw[hq34] at hr27
  refine RA.all [8] kR rfl ?_
  have hm40:=aB he20 (aB he25 he33)
  replace hb14:=hb14.ext hm40
  refine RS.runs rfl rfl rfl (jK (cs:=[(bd ((zx+zy)<0)),vr26]) (o:=0) iB rfl rfl rfl rfl (bG rfl (bG hr27.one fJ)) hb14 bL) ?_ RS.nil
  rintro w36 ⟨hn37,hx38,hz39⟩
  refine⟨.inr (.inl kR),?_⟩
  replace hE:=((hE.nx he25).nx he33).nb hx38 ge_b12
  have nb_hx38:=(Nb.of hb14 (cH rfl (cH rfl iL)))
  replace hb14:Bk w36 b12 49 [(bd ((zx+zy)<0)),vr26]:=hn37
  refine RA.done kR ?_
  refine gH ?_
  refine⟨[(.agg #[(bd ((zx+zy)<0)),vr26])],⟨⟨_,_,[(bd ((zx+zy)<0)),vr26],rfl,⟨_,iK⟩,hb14.cells rfl,.inl ⟨rG,⟨_,_,iB⟩,rfl⟩⟩,trivial⟩,?_⟩
  replace hr27:=hr27.apn hx38 nb_hx38
  exact⟨⟨_,rfl,hr27,oM⟩,hE⟩
 have hb18p:=hb18
 have hs:sx≠sy:=by simpa using hb18
 refine fL ?_
 refine dV (wsr (rV (cI iK rfl sF rfl) ?_))
 have hc41:=hb4.cell (j:=1) (u:=vx) rfl
 refine rV (dJ eC tF rfl hc41) (rV (cI iK rfl sF rfl) ?_)
 have hc42:=hb9.cell (j:=1) (u:=vy) rfl
 refine rV (dJ eC tF rfl hc42) ?_
 have hm49:=aB he3 (aB he8 he13)
 replace hx:=hx.tr (aH hm49)
 replace hy:=hy.tr (aH hm49)
 refine cL aOp (aXw hx (by assumption) oS hy (by assumption) oS) rfl ?_
 rintro vq47 w43 ⟨⟨vr45,hq48,hr46⟩,he44⟩
 have hlv50:=eO (x:=x) (by assumption)
 have hlv51:=eO (x:=y) (by assumption)
 have hlv52:=aOo (val x) (val y)
 subst hq48
 replace hr46:=hr46.fr hE
 replace hE:=hE.nx he44
 refine mV (v:=(.tuple #[vr45,(bd ((val y)<=(val x)))])) rfl (rV (bZ (v:=vr45) rfl rfl) (rV (bZ (v:=(bd ((val y)<=(val x)))) rfl rfl) (aS (v:=vr45) rfl (aS (v:=(bd ((val y)<=(val x)))) rfl (aE (wsr (mV (v:=(bd ((val y)<=(val x)))) rfl (aE ?_))))))))
 refine wcD (p:=(val y)<=(val x)) rfl (λhb53 hb53p=>?_) (λhb53 hb53p=>?_)
 ·have hle:val y<=val x:=hb53p
  refine wsr (rV (cI iK rfl ty4 rfl) ?_)
  replace hb4:=hb4.ext he44
  have hc54:=hb4.cell (j:=0) (u:=(.bool sx)) rfl
  refine rV (dJ uT4 ag4 rfl hc54) (mV (v:=vr45) rfl ?_)
  refine cL aAr (tV (n:=((val x)-(val y))) hr46 (show sg sx ((val x)-(val y))=zx+zy from (by exact aXn ex ey hs hle))) rfl ?_
  rintro _ w55 ⟨rfl,he56⟩
  have hq57:=aAq (show sg sx ((val x)-(val y))=zx+zy from (by exact aXn ex ey hs hle))
  have hlv58:(aJ (zx+zy).natAbs).length=(aJ ((val x)-(val y))).length:=by rw[hq57]
  replace hr46:=hr46.tr (aH he56)
  rw[hq57] at hr46
  replace hb14:=hb14.ext (aB he44 he56)
  refine fC rfl rfl (jK (cs:=[(bd ((zx+zy)<0)),vr45]) (o:=0) iB rfl rfl rfl rfl (bG rfl (bG hr46.one fJ)) hb14 bL) ?_
  rintro w59 ⟨hn60,hx61,hz62⟩
  replace hE:=(hE.nx he56).nb hx61 ge_b12
  have nb_hx61:=(Nb.of hb14 (cH rfl (cH rfl iL)))
  replace hb14:Bk w59 b12 49 [(bd ((zx+zy)<0)),vr45]:=hn60
  refine aE ?_
  refine gH ?_
  refine⟨[(.agg #[(bd ((zx+zy)<0)),vr45])],⟨⟨_,_,[(bd ((zx+zy)<0)),vr45],rfl,⟨_,iK⟩,hb14.cells rfl,.inl ⟨rG,⟨_,_,iB⟩,rfl⟩⟩,trivial⟩,?_⟩
  replace hr46:=hr46.apn hx61 nb_hx61
  exact⟨⟨_,rfl,hr46,oM⟩,hE⟩
 have hle:¬val y<=val x:=hb53p
 refine fL ?_
 refine wsr (rV (cI iK rfl sF rfl) ?_)
 replace hb9:=hb9.ext he44
 have hc63:=hb9.cell (j:=1) (u:=vy) rfl
 refine rV (dJ eC tF rfl hc63) (rV (cI iK rfl sF rfl) ?_)
 replace hb4:=hb4.ext he44
 have hc64:=hb4.cell (j:=1) (u:=vx) rfl
 refine rV (dJ eC tF rfl hc64) ?_
 replace hy:=hy.tr (aH he44)
 replace hx:=hx.tr (aH he44)
 refine cL aOp (aXw hy (by assumption) oS hx (by assumption) oS) rfl ?_
 rintro vq69 w65 ⟨⟨vr67,hq70,hr68⟩,he66⟩
 have hlv71:=eO (x:=y) (by assumption)
 have hlv72:=eO (x:=x) (by assumption)
 have hlv73:=aOo (val y) (val x)
 subst hq70
 replace hr68:=hr68.fr hE
 refine mV (v:=(.tuple #[vr67,(bd ((val x)<=(val y)))])) rfl (rV (bZ (v:=vr67) rfl rfl) (rV (bZ (v:=(bd ((val x)<=(val y)))) rfl rfl) (aS (v:=vr67) rfl (aS (v:=(bd ((val x)<=(val y)))) rfl (aE (wsr (rV (cI iK rfl ty4 rfl) ?_)))))))
 replace hb9:=hb9.ext he66
 have hc74:=hb9.cell (j:=0) (u:=(.bool sy)) rfl
 refine rV (dJ uT4 ag4 rfl hc74) (mV (v:=vr67) rfl ?_)
 refine cL aAr (tV (n:=((val y)-(val x))) hr68 (show sg sy ((val y)-(val x))=zx+zy from (by exact aXo ex ey hs hle))) rfl ?_
 rintro _ w75 ⟨rfl,he76⟩
 have hq77:=aAq (show sg sy ((val y)-(val x))=zx+zy from (by exact aXo ex ey hs hle))
 have hlv78:(aJ (zx+zy).natAbs).length=(aJ ((val y)-(val x))).length:=by rw[hq77]
 replace hr68:=hr68.tr (aH he76)
 rw[hq77] at hr68
 have hm83:=aB he44 (aB he66 he76)
 replace hb14:=hb14.ext hm83
 refine fC rfl rfl (jK (cs:=[(bd ((zx+zy)<0)),vr67]) (o:=0) iB rfl rfl rfl rfl (bG rfl (bG hr68.one fJ)) hb14 bL) ?_
 rintro w79 ⟨hn80,hx81,hz82⟩
 replace hE:=((hE.nx he66).nx he76).nb hx81 ge_b12
 have nb_hx81:=(Nb.of hb14 (cH rfl (cH rfl iL)))
 replace hb14:Bk w79 b12 49 [(bd ((zx+zy)<0)),vr67]:=hn80
 refine aE ?_
 refine gH ?_
 refine⟨[(.agg #[(bd ((zx+zy)<0)),vr67])],⟨⟨_,_,[(bd ((zx+zy)<0)),vr67],rfl,⟨_,iK⟩,hb14.cells rfl,.inl ⟨rG,⟨_,_,iB⟩,rfl⟩⟩,trivial⟩,?_⟩
 replace hr68:=hr68.apn hx81 nb_hx81
 exact⟨⟨_,rfl,hr68,oM⟩,hE⟩
theorem aEe {w:World} {sx:Bool} {Dx:Nat->TypeId->Prop} {vx:Value} {x:List Nat} (hx:Sg (gN .u32) Dx w vx x) (lmx:Lm x) (lnx:x.length<=274877906944) {zx:Int} (ex:sg sx (val x)=zx) {sy:Bool} {Dy:Nat->TypeId->Prop} {vy:Value} {y:List Nat} (hy:Sg (gN .u32) Dy w vy y) (lmy:Lm y) (lny:y.length<=274877906944) {zy:Int} (ey:sg sy (val y)=zy):
 Calls Tryz.prog 84 #[(.agg #[(.bool sx),vx]),(.agg #[(.bool sy),vy])] w λe w'=>∃v,e= .returned v/\(∃vr,v= .agg #[.bool (decide ((zx*zy)<0)),vr]/\Sg (gN .u32) (λb T=>w.heap.size<=b/\T=131) w' vr (aJ (zx*zy).natAbs)/\(aJ (zx*zy).natAbs).length<=x.length+y.length)/\Ext w w':=by
 have hE:Below w.heap.size w w:=Below.refl _ _
 have hlzx:=wF lmx ex
 have hlzy:=wF lmy ey
 refine eE (n:=16) (rs:=[.cell 4 49]) func84 rfl rfl rfl bL ?_
 refine iU λF0 hF0=>?_
 refine wsr ?_
 refine rU (qT (cs:=[(.bool sx),vx]) (hF0 0) rfl) ?_
 rintro _ w1 ⟨b2,rfl,hs5,hb4,he3⟩
 have ge_b2:=hE.ge hs5
 replace hE:=hE.nx he3
 refine rU (qT (cs:=[(.bool sy),vy]) (hF0 1) rfl) ?_
 rintro _ w6 ⟨b7,rfl,hs10,hb9,he8⟩
 have lt_b2_b7:=cG hb4.lt hs10.symm
 have ge_b7:=hE.ge hs10
 replace hE:=hE.nx he8
 refine rU (jA (cs:=[(.bool false),(.slice none 0 0)]) iB rfl) ?_
 rintro _ w11 ⟨b12,rfl,hs15,hb14,he13⟩
 have lt_b7_b12:=cG hb9.lt hs15.symm
 have ge_b12:=hE.ge hs15
 refine aE (dV ?_)
 refine oQ pJ λw16 he17=>?_
 replace hE:=(hE.nx he13).nx he17
 refine ra 0 rfl (λ_=>cI iK rfl ty4 rfl) ?_
 have hm19:=aB he8 (aB he13 he17)
 replace hb4:=hb4.ext hm19
 have hc18:=hb4.cell (j:=0) (u:=(.bool sx)) rfl
 refine aR 1 rfl (λu hu=>dJ uT4 ag4 rfl (fH hu hc18)) ?_
 refine ra 2 rfl (λ_=>cI iK rfl ty4 rfl) ?_
 replace hb9:=hb9.ext (aB he13 he17)
 have hc20:=hb9.cell (j:=0) (u:=(.bool sy)) rfl
 refine aR 3 rfl (λu hu=>dJ uT4 ag4 rfl (fH hu hc20)) ?_
 refine ra 4 rfl (λ_=>aWq uT4 rfl rfl) ?_
 refine ra 5 rfl (λ_=>cI iK rfl sF rfl) ?_
 have hc21:=hb4.cell (j:=1) (u:=vx) rfl
 refine aR 6 rfl (λu hu=>dJ eC tF rfl (fH hu hc21)) ?_
 refine ra 7 rfl (λ_=>cI iK rfl sF rfl) ?_
 have hc22:=hb9.cell (j:=1) (u:=vy) rfl
 refine aR 8 rfl (λu hu=>dJ eC tF rfl (fH hu hc22)) ?_
 refine RA.all [9] kR rfl ?_
 have hm27:=aB he3 (aB he8 (aB he13 he17))
 replace hx:=hx.tr (aH hm27)
 replace hy:=hy.tr (aH hm27)
 refine cS aMl (aMn hx (by assumption) oS hy (by assumption) oS) rfl rfl ?_ RS.nil
 rintro vr25 w23 ⟨hr26,he24⟩
 refine rm he24 ?_
 replace hr26:=hr26.fr hE
 have hlv28:=eO (x:=x) (by assumption)
 have hlv29:=eO (x:=y) (by assumption)
 have hlv30:=aFv (val x) (val y)
 refine RA.all [10] kR rfl ?_
 refine cS aAr (tV (n:=((val x)*(val y))) hr26 (show sg (sx !=sy) ((val x)*(val y))=zx*zy from (by rw[sg_mul,ex,ey]))) rfl rfl ?_ RS.nil
 rintro _ w31 ⟨rfl,he32⟩
 refine rm he32 ?_
 have hq33:=aAq (show sg (sx !=sy) ((val x)*(val y))=zx*zy from (by rw[sg_mul,ex,ey]))
 have hlv34:(aJ (zx*zy).natAbs).length=(aJ ((val x)*(val y))).length:=by rw[hq33]
 replace hr26:=hr26.tr (aH he32)
 rw[hq33] at hr26
 refine RA.all [11] kR rfl ?_
 have hm39:=aB he17 (aB he24 he32)
 replace hb14:=hb14.ext hm39
 refine RS.runs rfl rfl rfl (jK (cs:=[(bd ((zx*zy)<0)),vr25]) (o:=0) iB rfl rfl rfl rfl (bG rfl (bG hr26.one fJ)) hb14 bL) ?_ RS.nil
 rintro w35 ⟨hn36,hx37,hz38⟩
 refine⟨.inr (.inl kR),?_⟩
 replace hE:=((hE.nx he24).nx he32).nb hx37 ge_b12
 have nb_hx37:=(Nb.of hb14 (cH rfl (cH rfl iL)))
 replace hb14:Bk w35 b12 49 [(bd ((zx*zy)<0)),vr25]:=hn36
 refine RA.done kR ?_
 refine gH ?_
 refine⟨[(.agg #[(bd ((zx*zy)<0)),vr25])],⟨⟨_,_,[(bd ((zx*zy)<0)),vr25],rfl,⟨_,iK⟩,hb14.cells rfl,.inl ⟨rG,⟨_,_,iB⟩,rfl⟩⟩,trivial⟩,?_⟩
 replace hr26:=hr26.apn hx37 nb_hx37
 exact⟨⟨_,rfl,hr26,oM⟩,hE⟩
theorem bNc {w:World} {k:Int} (hk:-9223372036854775808<=k/\k<=9223372036854775807):
 Calls Tryz.prog 111 #[(iv k)] w λe w'=>∃v,e= .returned v/\(∃vr,v= .agg #[.bool (decide (k<0)),vr]/\Sg (gN .u32) (λb T=>w.heap.size<=b/\T=131) w' vr (aJ k.natAbs)/\(aJ k.natAbs).length<=2)/\Ext w w':=by
 have hE:Below w.heap.size w w:=Below.refl _ _
 refine eE (n:=14) (rs:=[.cell 2 49]) func111 rfl rfl rfl bL ?_
 refine iU λF0 hF0=>?_
 refine wsr ?_
 refine rU (jA (cs:=[(.bool false),(.slice none 0 0)]) iB rfl) ?_
 rintro _ w1 ⟨b2,rfl,hs5,hb4,he3⟩
 have ge_b2:=hE.ge hs5
 replace hE:=hE.nx he3
 refine aE (dV (wsr (mV (v:=(iv k)) (hF0 0) (rV (mP (k:=.i64) (a:=k) (b:=0) rfl rfl) (aE ?_)))))
 refine wcD (p:=k<0) rfl (λhb6 hb6p=>?_) (λhb6 hb6p=>?_)
 ·refine wsr ?_
  refine mV (v:=(iv k)) (hF0 0) (rV (fE (k:=.u64) (a:=k) (c:=k+18446744073709551616) uT3 jE rfl (by rw[aMb];omega)) (rV (aRv (k:=.u64) (a:=k+18446744073709551616) (c:=(((-k).toNat:Nat):Int)) rfl (by rw[aMb];omega)) ?_))
  refine cL vU (vV oM) rfl ?_
  rintro vr9 w7 ⟨hr10,he8⟩
  replace hr10:=hr10.fr hE
  have hlv11:=vT (n:=(-k).toNat) oM
  refine cL aAr (tV (n:=((-k).toNat)) hr10 (show sg true ((-k).toNat)=k from (by rw[sg_t];omega))) rfl ?_
  rintro _ w12 ⟨rfl,he13⟩
  have hq14:=aAq (show sg true ((-k).toNat)=k from (by rw[sg_t];omega))
  have hlv15:(aJ k.natAbs).length=(aJ ((-k).toNat)).length:=by rw[hq14]
  replace hr10:=hr10.tr (aH he13)
  rw[hq14] at hr10
  replace hb4:=hb4.ext (aB he8 he13)
  refine fC rfl rfl (jK (cs:=[(bd (k<0)),vr9]) (o:=0) iB rfl rfl rfl rfl (bG rfl (bG hr10.one fJ)) hb4 bL) ?_
  rintro w16 ⟨hn17,hx18,hz19⟩
  replace hE:=((hE.nx he8).nx he13).nb hx18 ge_b2
  have nb_hx18:=(Nb.of hb4 (cH rfl (cH rfl iL)))
  replace hb4:Bk w16 b2 49 [(bd (k<0)),vr9]:=hn17
  refine aE ?_
  refine gH ?_
  refine⟨[(.agg #[(bd (k<0)),vr9])],⟨⟨_,_,[(bd (k<0)),vr9],rfl,⟨_,iK⟩,hb4.cells rfl,.inl ⟨rG,⟨_,_,iB⟩,rfl⟩⟩,trivial⟩,?_⟩
  replace hr10:=hr10.apn hx18 nb_hx18
  exact⟨⟨_,rfl,hr10,oM⟩,hE⟩
 refine fL ?_
 refine wsr (mV (v:=(iv k)) (hF0 0) (rV (fE (k:=.u64) (a:=k) (c:=((k.toNat:Nat):Int)) uT3 jE rfl ((iV oM).trans oM)) ?_))
 refine cL vU (vV oM) rfl ?_
 rintro vr22 w20 ⟨hr23,he21⟩
 replace hr23:=hr23.fr hE
 have hlv24:=vT (n:=k.toNat) oM
 refine cL aAr (tV (n:=k.toNat) hr23 (show sg false k.toNat=k from (by rw[sg_f];omega))) rfl ?_
 rintro _ w25 ⟨rfl,he26⟩
 have hq27:=aAq (show sg false k.toNat=k from (by rw[sg_f];omega))
 have hlv28:(aJ k.natAbs).length=(aJ k.toNat).length:=by rw[hq27]
 replace hr23:=hr23.tr (aH he26)
 rw[hq27] at hr23
 replace hb4:=hb4.ext (aB he21 he26)
 refine fC rfl rfl (jK (cs:=[(bd (k<0)),vr22]) (o:=0) iB rfl rfl rfl rfl (bG rfl (bG hr23.one fJ)) hb4 bL) ?_
 rintro w29 ⟨hn30,hx31,hz32⟩
 replace hE:=((hE.nx he21).nx he26).nb hx31 ge_b2
 have nb_hx31:=(Nb.of hb4 (cH rfl (cH rfl iL)))
 replace hb4:Bk w29 b2 49 [(bd (k<0)),vr22]:=hn30
 refine aE ?_
 refine gH ?_
 refine⟨[(.agg #[(bd (k<0)),vr22])],⟨⟨_,_,[(bd (k<0)),vr22],rfl,⟨_,iK⟩,hb4.cells rfl,.inl ⟨rG,⟨_,_,iB⟩,rfl⟩⟩,trivial⟩,?_⟩
 replace hr23:=hr23.apn hx31 nb_hx31
 exact⟨⟨_,rfl,hr23,oM⟩,hE⟩
theorem aOu {w:World} {sx:Bool} {Dx:Nat->TypeId->Prop} {vx:Value} {x:List Nat} (hx:Sg (gN .u32) Dx w vx x) (lmx:Lm x) (lnx:x.length<=274877906944) {zx:Int} (ex:sg sx (val x)=zx):
 Calls Tryz.prog 79 #[(.agg #[(.bool sx),vx])] w λe w'=>∃v,e= .returned v/\v= .int .i64 (Int.sign zx)/\Ext w w':=by
 have hE:Below w.heap.size w w:=Below.refl _ _
 have hlzx:=wF lmx ex
 refine eE (n:=11) (rs:=[.tmp 2]) func79 rfl rfl rfl bL ?_
 refine iU λF0 hF0=>?_
 refine wsr ?_
 refine rU (qT (cs:=[(.bool sx),vx]) (hF0 0) rfl) ?_
 rintro _ w1 ⟨b2,rfl,hs5,hb4,he3⟩
 have ge_b2:=hE.ge hs5
 refine aS (v:=(iv 0)) rfl (aE (dV ?_))
 refine gC ?_
 refine wsr (rV (cI iK rfl sF rfl) ?_)
 have hc6:=hb4.cell (j:=1) (u:=vx) rfl
 refine rV (dJ eC tF rfl hc6) ?_
 replace hx:=hx.tr (aH he3)
 refine cL yC (qK hx (by assumption) oS (Sg.nil (g:=gN .u32) (D:=(λb T=>w.heap.size<=b/\T=131))) Lm.nil oS) rfl ?_
 rintro vq10 w7 ⟨hq9,he8⟩
 subst hq9
 replace hE:=(hE.nx he3).nx he8
 refine rV (tA (k:=.i64) (a:=cmpI (((val x):Nat):Int) (((val ([])):Nat):Int)) (b:=0) rfl rfl) (aS (v:=(bd ((cmpI (((val x):Nat):Int) (((val ([])):Nat):Int))=0))) rfl (aE ?_))
 refine wcD (p:=(cmpI (((val x):Nat):Int) (((val ([])):Nat):Int))=0) rfl (λhb11 hb11p=>?_) (λhb11 hb11p=>?_)
 ·have hz:val x=0:=by have h9:=wG.1 hb11p;have h8:val []=0:=rfl;omega
  refine wsr (aS (v:=(iv 0)) rfl (aE ?_))
  refine gH ?_
  refine⟨[(iv 0)],⟨rfl,trivial⟩,?_⟩
  exact⟨cQ (uN.2 (by rw[<-ex,hz,dR])).symm,hE⟩
 have hz:val x≠0:=λh=>hb11p (wG.2 (by rw[h];rfl))
 refine wsr (rV (cI iK rfl ty4 rfl) ?_)
 replace hb4:=hb4.ext he8
 have hc12:=hb4.cell (j:=0) (u:=(.bool sx)) rfl
 refine rV (dJ uT4 ag4 rfl hc12) (aS (v:=(.bool sx)) rfl (aE ?_))
 refine uQ (b:=sx) rfl (λhb13=>?_) (λhb13=>?_)
 ·have hb13p:=hb13
  have hsx:sx=true:=hb13
  refine wsr (aS (v:=(iv (-1))) rfl (aE ?_))
  refine gH ?_
  refine⟨[(iv (-1))],⟨rfl,trivial⟩,?_⟩
  exact⟨cQ (fO (by rw[<-ex];exact gF.2 ⟨hsx,by omega⟩)).symm,hE⟩
 have hb13p:=hb13
 have hsx:sx=false:=hb13
 refine fL ?_
 refine wsr (aS (v:=(iv 1)) rfl (aE ?_))
 refine gH ?_
 refine⟨[(iv 1)],⟨rfl,trivial⟩,?_⟩
 exact⟨cQ (gJ (by rw[<-ex,hsx,sg_f];omega)).symm,hE⟩
theorem aVo {w:World} {sx:Bool} {Dx:Nat->TypeId->Prop} {vx:Value} {x:List Nat} (hx:Sg (gN .u32) Dx w vx x) (lmx:Lm x) (lnx:x.length<=274877906944) {zx:Int} (ex:sg sx (val x)=zx) {sy:Bool} {Dy:Nat->TypeId->Prop} {vy:Value} {y:List Nat} (hy:Sg (gN .u32) Dy w vy y) (lmy:Lm y) (lny:y.length<=274877906944) {zy:Int} (ey:sg sy (val y)=zy):
 Calls Tryz.prog 171 #[(.agg #[(.bool sx),vx]),(.agg #[(.bool sy),vy])] w λe w'=>∃v,e= .returned v/\v= .int .i64 (cmpI zx zy)/\Ext w w':=by
 have hE:Below w.heap.size w w:=Below.refl _ _
 have hlzx:=wF lmx ex
 have hlzy:=wF lmy ey
 refine eE (n:=32) (rs:=[.tmp 4]) func171 rfl rfl rfl bL ?_
 refine iU λF0 hF0=>?_
 refine wsr ?_
 refine rU (qT (cs:=[(.bool sx),vx]) (hF0 0) rfl) ?_
 rintro _ w1 ⟨b2,rfl,hs5,hb4,he3⟩
 have ge_b2:=hE.ge hs5
 replace hE:=hE.nx he3
 refine rU (qT (cs:=[(.bool sy),vy]) (hF0 1) rfl) ?_
 rintro _ w6 ⟨b7,rfl,hs10,hb9,he8⟩
 have lt_b2_b7:=cG hb4.lt hs10.symm
 have ge_b7:=hE.ge hs10
 refine aS (v:=(iv 0)) rfl (aE (dV ?_))
 refine oQ pJ λw11 he12=>?_
 replace hb4:=hb4.ext (aB he8 he12)
 have hc13:=hb4.cells (o:=0) (cs:=[(.bool sx),vx]) rfl
 refine aR 0 rfl (λu hu=>fT (o:=0) (cs:=[(.bool sx),vx]) iK rG iB rfl (λj v hj=>fH hu (hc13 j v hj))) ?_
 replace hb9:=hb9.ext he12
 have hc14:=hb9.cells (o:=0) (cs:=[(.bool sy),vy]) rfl
 refine aR 2 rfl (λu hu=>fT (o:=0) (cs:=[(.bool sy),vy]) iK rG iB rfl (λj v hj=>fH hu (hc14 j v hj))) ?_
 refine RA.all [1] kR rfl ?_
 have hm17:=aB he3 (aB he8 he12)
 replace hx:=hx.tr (aH hm17)
 refine RS.call rfl rfl rfl dC (gI (vl:=[(.agg #[(.bool sx),vx])]) aXf rfl) (aOu hx (by assumption) oS (show sg sx (val x)=zx from ex)) ?_ RS.nil
 rintro _ w15 ⟨rfl,he16⟩
 refine rm he16 ?_
 refine RA.all [3] kR rfl ?_
 have hm20:=aB hm17 he16
 replace hy:=hy.tr (aH hm20)
 refine RS.call rfl rfl rfl dC (gI (vl:=[(.agg #[(.bool sy),vy])]) aXf rfl) (aOu hy (by assumption) oS (show sg sy (val y)=zy from ey)) ?_ RS.nil
 rintro _ w18 ⟨rfl,he19⟩
 refine rm he19 ?_
 replace hE:=(((hE.nx he8).nx he12).nx he16).nx he19
 refine aA 4 rfl (v:=(iv (Int.sign zx))) rfl ?_
 refine aA 5 rfl (v:=(iv (Int.sign zy))) rfl ?_
 refine RA.done kR ?_
 refine dV ?_
 refine gC ?_
 refine wsr (mV (v:=(iv (Int.sign zx))) rfl (mV (v:=(iv (Int.sign zy))) rfl (rV (mP (k:=.i64) (a:=Int.sign zx) (b:=Int.sign zy) rfl rfl) (aS (v:=(bd ((Int.sign zx)<(Int.sign zy)))) rfl (aE ?_)))))
 refine wcD (p:=(Int.sign zx)<(Int.sign zy)) rfl (λhb21 hb21p=>?_) (λhb21 hb21p=>?_)
 ·have hlt:=aYe hb21p
  refine wsr (aS (v:=(iv (-1))) rfl (aE ?_))
  refine gH ?_
  refine⟨[(iv (-1))],⟨rfl,trivial⟩,?_⟩
  exact⟨cQ (by unfold cmpI;rw[if_pos hlt]),hE⟩
 have hs1:=hb21p
 refine wsr (mV (v:=(iv (Int.sign zx))) rfl (mV (v:=(iv (Int.sign zy))) rfl (rV (aAf (k:=.i64) (a:=Int.sign zx) (b:=Int.sign zy) rfl rfl) (aS (v:=(bd ((Int.sign zy)<(Int.sign zx)))) rfl (aE ?_)))))
 refine wcD (p:=(Int.sign zy)<(Int.sign zx)) rfl (λhb22 hb22p=>?_) (λhb22 hb22p=>?_)
 ·have hgt:=aYe hb22p
  refine wsr (aS (v:=(iv 1)) rfl (aE ?_))
  refine gH ?_
  refine⟨[(iv 1)],⟨rfl,trivial⟩,?_⟩
  exact⟨cQ (by unfold cmpI;rw[if_neg oM,if_pos hgt]),hE⟩
 have hs2:=hb22p
 have hca:=bHh hs1 hs2
 refine wsr (mV (v:=(iv (Int.sign zx))) rfl (rV (mP (k:=.i64) (a:=Int.sign zx) (b:=0) rfl rfl) (aS (v:=(bd ((Int.sign zx)<0))) rfl (aE ?_))))
 refine wcD (p:=(Int.sign zx)<0) rfl (λhb23 hb23p=>?_) (λhb23 hb23p=>?_)
 ·have hs3:=hb23p
  refine wsr (rV (cI iK rfl sF rfl) ?_)
  replace hb9:=hb9.ext (aB he16 he19)
  have hc24:=hb9.cell (j:=1) (u:=vy) rfl
  refine rV (dJ eC tF rfl hc24) (rV (cI iK rfl sF rfl) ?_)
  replace hb4:=hb4.ext (aB he16 he19)
  have hc25:=hb4.cell (j:=1) (u:=vx) rfl
  refine rV (dJ eC tF rfl hc25) ?_
  replace hy:=hy.tr (aH he19)
  replace hx:=hx.tr (aH (aB he16 he19))
  refine cL yC (qK hy (by assumption) oS hx (by assumption) oS) rfl ?_
  rintro vq29 w26 ⟨hq28,he27⟩
  subst hq28
  replace hE:=hE.nx he27
  refine aS (v:=(iv (cmpI (((val y):Nat):Int) (((val x):Nat):Int)))) rfl (aE ?_)
  refine gH ?_
  refine⟨[(iv (cmpI (((val y):Nat):Int) (((val x):Nat):Int)))],⟨rfl,trivial⟩,?_⟩
  have ax:zx.natAbs=val x:=by rw[<-ex,sg_abs]
  have ay:zy.natAbs=val y:=by rw[<-ey,sg_abs]
  rw[ax,ay] at hca
  exact⟨cQ (hca.1 hs3),hE⟩
 have hs3:=hb23p
 refine fL ?_
 refine wsr (rV (cI iK rfl sF rfl) ?_)
 replace hb4:=hb4.ext (aB he16 he19)
 have hc30:=hb4.cell (j:=1) (u:=vx) rfl
 refine rV (dJ eC tF rfl hc30) (rV (cI iK rfl sF rfl) ?_)
 replace hb9:=hb9.ext (aB he16 he19)
 have hc31:=hb9.cell (j:=1) (u:=vy) rfl
 refine rV (dJ eC tF rfl hc31) ?_
 replace hx:=hx.tr (aH (aB he16 he19))
 replace hy:=hy.tr (aH he19)
 refine cL yC (qK hx (by assumption) oS hy (by assumption) oS) rfl ?_
 rintro vq35 w32 ⟨hq34,he33⟩
 subst hq34
 replace hE:=hE.nx he33
 refine aS (v:=(iv (cmpI (((val x):Nat):Int) (((val y):Nat):Int)))) rfl (aE ?_)
 refine gH ?_
 refine⟨[(iv (cmpI (((val x):Nat):Int) (((val y):Nat):Int)))],⟨rfl,trivial⟩,?_⟩
 have ax:zx.natAbs=val x:=by rw[<-ex,sg_abs]
 have ay:zy.natAbs=val y:=by rw[<-ey,sg_abs]
 rw[ax,ay] at hca
 exact⟨cQ (hca.2 hs3),hE⟩
end Go.Proofs.YtlhdigjbokkbiaaGreat.W
namespace Go.Vm
theorem zR {z:Int} {d:Nat} (hd:d≠0):(Rat.divInt z (d:Int)).num.natAbs=z.natAbs/Nat.gcd z.natAbs d/\(Rat.divInt z (d:Int)).den=d/Nat.gcd z.natAbs d/\((Rat.divInt z (d:Int)).num<0↔z<0):=by
 have hz:(d:Int)≠0:=by omega
 have hlaw:=(aMh (zx:=z) hz).2
 have hg:Int.gcd z (d:Int)=Nat.gcd z.natAbs d:=rfl
 rw[hg] at hlaw
 have hgp:0<Nat.gcd z.natAbs d:=nB _ oM
 have hn:¬((d:Int)/((Nat.gcd z.natAbs d:Nat):Int)<0):=by
  have:=Int.ediv_nonneg (a:=(d:Int)) (b:=((Nat.gcd z.natAbs d:Nat):Int)) oM oM
  omega
 obtain⟨h1,h2⟩:=hlaw hn
 have hdv:((Nat.gcd z.natAbs d:Nat):Int)∣z:=Int.ofNat_dvd_left.2 (kG _ _)
 refine⟨?_,?_,?_⟩
 ·rw[h1,Int.natAbs_ediv_of_dvd hdv,eD]
 ·rw[h2,<-rP,eD]
 rw[h1]
 obtain⟨k,hk⟩:=hdv
 generalize hG:((Nat.gcd z.natAbs d:Nat):Int)=G at*
 have hGp:0<G:=by omega
 rw[hk,kP _ oM]
 constructor
 ·intro h;exact uM hGp h
 intro h
 rcases Int.lt_or_le k 0 with h3|h3
 ·exact h3
 have:=zJ (tM hGp) h3;omega
theorem aYf {s:Bool} {n d:Nat} {q:Rat} (hd:d≠0) (h:jH s n d=q):Int.sign (sg s n)=Int.sign q.num:=by
 have hl:=zR (z:=sg s n) hd
 unfold jH at h
 rw[h] at hl
 rcases gW (sg s n) 0 with h1|h1|h1
 ·rw[fO h1,fO (hl.2.2.2 h1)]
 ·have h2:q.num.natAbs=0:=by rw[hl.1,h1];simp
  rw[h1,show q.num=0 by omega]
 have h3:¬q.num<0:=λh4=>by have:=hl.2.2.1 h4;omega
 have h4:q.num.natAbs≠0:=by
  rw[hl.1]
  have hdv:Nat.gcd (sg s n).natAbs d∣(sg s n).natAbs:=kG _ _
  have hp:=Nat.div_pos (vZ oM hdv) (nB (sg s n).natAbs (by omega:0<d))
  omega
 rw[gJ h1,gJ oM]
theorem aGd (b:Bool) (n:Nat):jH b n 0=0:=by unfold jH;exact Rat.divInt_zero _
theorem xP {a b:Int} (ha:-2147483648<a/\a<2147483648) (hb:-2147483648<b/\b<2147483648):-4611686018427387904<a*b/\a*b<4611686018427387904:=by
 have h:(a*b).natAbs<=2147483647*2147483647:=by rw[pA];exact uF oM oM
 omega
theorem lW {a b c d:Int} {p q:Rat} (hc:0<c) (hd:0<d) (h1:Rat.divInt a c=p) (h2:Rat.divInt b d=q):Rat.divInt (a*d+b*c) (c*d)=p+q:=by
 rw[<-h1,<-h2,rK _ _ oM oM]
theorem xB {a b c d:Int} {p q:Rat} (h1:Rat.divInt a c=p) (h2:Rat.divInt b d=q):Rat.divInt (a*b) (c*d)=p*q:=by
 rw[<-h1,<-h2,rL]
theorem wH {a b c:Int} {p q:Rat} (hc:c≠0) (h1:Rat.divInt a c=p) (h2:Rat.divInt b c=q):Rat.divInt (a+b) c=p+q:=by
 rw[<-h1,<-h2,rK _ _ hc hc,<-Int.add_mul,Rat.divInt_mul_right hc]
theorem aYg {a:Int} {c:Int} (hc:0<c):(Rat.divInt a c<0↔a<0):=by
 have h:=zR (z:=a) (d:=c.natAbs) oM
 rw[show((c.natAbs:Nat):Int)=c by omega] at h
 rw[<-h.2.2]
 have:=Rat.num_nonneg (q:=Rat.divInt a c)
 constructor
 ·intro h1
  rcases Int.lt_or_le (Rat.divInt a c).num 0 with h2|h2
  ·exact h2
  have:=this.1 h2;grind
 intro h1
 rcases Rat.le_total (a:=0) (b:=Rat.divInt a c) with h2|h2
 ·have:=this.2 h2;omega
 rcases Classical.em (Rat.divInt a c=0) with h3|h3
 ·rw[h3] at h1;exact absurd h1 dC
 grind
theorem aEu {a b c d:Int} {p q:Rat} (hc:0<c) (hd:0<d) (h1:Rat.divInt a c=p) (h2:Rat.divInt b d=q):(a*d<b*c↔p<q):=by
 have h3:Rat.divInt (-b) d=-q:=by rw[<-Rat.neg_divInt,h2]
 have h4:=lW hc hd h1 h3
 have h5:=aYg (a:=a*d+ -b*c) (c:=c*d) (vI hc hd)
 rw[h4] at h5
 rw[vF] at h5
 constructor
 ·intro h;have:=h5.2 oM;grind
 intro h;have:=h5.1 (by grind);omega
theorem wI (p q:Rat):(aJ (p+q).num.natAbs).length<=max ((aJ p.num.natAbs).length+(aJ q.den).length) ((aJ q.num.natAbs).length+(aJ p.den).length)+1/\(aJ (p+q).den).length<=(aJ p.den).length+(aJ q.den).length:=by
 rw[<-aMi p q]
 have h1:=wY (a:=p.num*(q.den:Int)+q.num*(p.den:Int)) (b:=(p.den:Int)*(q.den:Int))
 have h2:=wZ (a:=p.num*(q.den:Int)+q.num*(p.den:Int)) (b:=(p.den:Int)*(q.den:Int))
 have h3:=aXd (p.num*(q.den:Int)) (q.num*(p.den:Int))
 have h4:=aAp p.num (q.den:Int)
 have h5:=aAp q.num (p.den:Int)
 have h6:=aAp (p.den:Int) (q.den:Int)
 have h7:=kJ p
 rw[eD] at h4 h5
 rw[eD,eD] at h6
 exact⟨by omega,by omega⟩
theorem aGe (p q:Rat):(aJ (p*q).num.natAbs).length<=(aJ p.num.natAbs).length+(aJ q.num.natAbs).length/\(aJ (p*q).den).length<=(aJ p.den).length+(aJ q.den).length:=by
 rw[<-aMj p q]
 have h1:=wY (a:=p.num*q.num) (b:=(p.den:Int)*(q.den:Int))
 have h2:=wZ (a:=p.num*q.num) (b:=(p.den:Int)*(q.den:Int))
 have h4:=aAp p.num q.num
 have h6:=aAp (p.den:Int) (q.den:Int)
 have h7:=kJ p
 rw[eD,eD] at h6
 exact⟨by omega,by omega⟩
end Go.Vm
namespace Go.Proofs.YtlhdigjbokkbiaaGreat.W
open Go.Vg Go.RowKit _root_.Go.Proofs.Tryz
open Go.Vm
theorem aBm {b c:Bool} {v u:Value} (h:b=c):Value.agg #[.bool b,v,u]= .agg #[.bool c,v,u]:=by rw[h]
def cmpQ (a b:Rat):Int:=if a<b then-1 else if b<a then 1 else 0
theorem yE (q:Rat):q.num<0↔q<0:=by
 have:=Rat.num_nonneg (q:=q)
 constructor
 ·intro h;rcases Rat.le_total (a:=0) (b:=q) with h1|h1
  ·have:=this.2 h1;omega
  rcases Classical.em (q=0) with h2|h2
  ·rw[h2] at h;exact absurd h dC
  grind
 intro h
 rcases Int.lt_or_le q.num 0 with h1|h1
 ·exact h1
 have:=this.1 h1;grind
theorem aSj (q:Rat):Int.sign q.num=0↔q=0:=by rw[<-dU];exact uN
theorem uU {w:World} {sx:Bool} {Dx Ex:Nat->TypeId->Prop} {vx ux:Value} {x dx:List Nat} (hx:Sg (gN .u32) Dx w vx x) (lmx:Lm x) (lnx:x.length<=68719476736) (hdx:Sg (gN .u32) Ex w ux dx) (lmdx:Lm dx) (lndx:dx.length<=68719476736) {qx:Rat} (ex:jH sx (val x) (val dx)=qx):
 Calls Tryz.prog 78 #[(.agg #[(.bool sx),vx,ux])] w λe w'=>∃v,e= .returned v/\(∃s' vn vd xn xd,v= .tuple #[.agg #[.bool s',vn],vd]/\Sg (gN .u32) (λ_ _=>True) w' vn xn/\Lm xn/\xn.length<=x.length/\Sg (gN .u32) (λ_ _=>True) w' vd xd/\Lm xd/\xd.length<=dx.length+1/\val xd≠0/\jH s' (val xn) (val xd)=qx)/\Ext w w':=by
 have hE:Below w.heap.size w w:=Below.refl _ _
 have hlqx:=aAi lmx lmdx ex
 have hdqx:=kJ qx
 refine eE (n:=14) (rs:=[.cell 2 49,.tmp 3]) func78 rfl rfl rfl bL ?_
 refine iU λF0 hF0=>?_
 refine wsr ?_
 refine rU (qT (cs:=[(.bool sx),vx,ux]) (hF0 0) rfl) ?_
 rintro _ w1 ⟨b2,rfl,hs5,hb4,he3⟩
 have ge_b2:=hE.ge hs5
 replace hE:=hE.nx he3
 refine rU (jA (cs:=[(.bool false),(.slice none 0 0)]) iB rfl) ?_
 rintro _ w6 ⟨b7,rfl,hs10,hb9,he8⟩
 have lt_b2_b7:=cG hb4.lt hs10.symm
 have ge_b7:=hE.ge hs10
 refine aS (v:=(.slice none (0) (0))) rfl (aE (dV (wsr (rV (cI kK rfl sF rfl) ?_))))
 replace hb4:=hb4.ext he8
 have hc11:=hb4.cell (j:=2) (u:=ux) rfl
 refine rV (dJ eC tF rfl hc11) ?_
 replace hdx:=hdx.tr (aH (aB he3 he8))
 refine cL yC (qK hdx (by assumption) oS (Sg.nil (g:=gN .u32) (D:=(λb T=>w.heap.size<=b/\T=131))) Lm.nil oS) rfl ?_
 rintro vq15 w12 ⟨hq14,he13⟩
 subst hq14
 replace hE:=(hE.nx he8).nx he13
 refine rV (tA (k:=.i64) (a:=cmpI (((val dx):Nat):Int) (((val ([])):Nat):Int)) (b:=0) rfl rfl) (aE ?_)
 refine wcD (p:=(cmpI (((val dx):Nat):Int) (((val ([])):Nat):Int))=0) rfl (λhb16 hb16p=>?_) (λhb16 hb16p=>?_)
 ·have hz:val dx=0:=by have h9:=wG.1 hb16p;have h8:val []=0:=rfl;omega
  refine wsr (rV (mQ (vl:=[]) (cs:=[(.bool false),(.slice none 0 0)]) iK iB rfl (aMk iK) rfl) ?_)
  refine rU (aMc (vl:=[(0,(.int .u32 1))]) (cs:=[(.int .u32 1)]) eC eR rfl dC (by first|(simp[Instr.fill,Value.cells];done)|rfl|kernel_rfl)) ?_
  rintro _ w17 ⟨b18,rfl,hs21,hb20,he19⟩
  replace hb9:=hb9.ext he13
  have lt_b7_b18:=cG hb9.lt hs21.symm
  have ge_b18:=hE.ge hs21
  replace hb9:=hb9.ext he19
  refine fC rfl rfl (jK (cs:=[(.bool false),(.slice none 0 0)]) (o:=0) iB rfl rfl rfl rfl (bG rfl (bG rfl fJ)) hb9 bL) ?_
  rintro w22 ⟨hn23,hx24,hz25⟩
  replace hE:=(hE.nx he19).nb hx24 ge_b7
  replace hb9:Bk w22 b7 49 [(.bool false),(.slice none 0 0)]:=hn23
  refine aS (v:=(.slice (some ⟨b18,0,none⟩) (1) (1))) rfl (aE ?_)
  refine gH ?_
  refine⟨[(.agg #[(.bool false),(.slice none 0 0)]),(.slice (some ⟨b18,0,none⟩) (1) (1))],⟨⟨_,_,[(.bool false),(.slice none 0 0)],rfl,⟨_,iK⟩,hb9.cells rfl,.inl ⟨rG,⟨_,_,iB⟩,rfl⟩⟩,⟨rfl,trivial⟩⟩,?_⟩
  replace hb20:=hb20.exc hx24 (lJ lt_b7_b18)
  exact⟨⟨_,_,_,[],[1],rfl,Sg.nil,Lm.nil,aF _,hb20.sg (g:=gN .u32) (D:=(λ_ _=>True)) (xs:=[1]) trivial rfl rfl dC,(by intro z hz;simp at hz;omega),by simp,by decide,by rw[<-ex,hz,aGd];rfl⟩,hE⟩
 have hz:val dx≠0:=λh=>hb16p (wG.2 (by rw[h];rfl))
 refine fL ?_
 refine dV ?_
 refine bMw (λu=>Bk u b2 51 [(.bool sx),vx,ux]) pJ λw26 he27=>?_
 refine ra 0 rfl (λ_=>cI kK rfl iB rfl) ?_
 replace hb4:=hb4.ext (aB he13 he27)
 refine RA.rd 1 rfl kR rfl rfl rfl dC hb4 (λu hu=>fT (o:=0) (cs:=[(.bool sx),vx]) iK rG iB rfl (hu.cells (o:=0) (cs:=[(.bool sx),vx]) rfl)) ?_
 refine ra 2 rfl (λ_=>cI kK rfl sF rfl) ?_
 refine RA.rd 3 rfl kR rfl rfl rfl dC hb4 (λu hu=>dJ eC tF rfl (hu.cell (j:=2) (u:=ux) rfl)) ?_
 refine RA.all [4] kR rfl ?_
 replace hb9:=hb9.ext (aB he13 he27)
 refine RS.runs rfl rfl rfl (jK (cs:=[(.bool sx),vx]) (o:=0) iB rfl rfl rfl rfl (bG rfl (bG hx.one fJ)) hb9 bL) ?_ RS.nil
 rintro w30 ⟨hn31,hx32,hz33⟩
 replace hE:=(hE.nx he27).nb hx32 ge_b7
 have nb_hx32:=(Nb.of hb9 (cH rfl (cH rfl iL)))
 replace hb9:Bk w30 b7 49 [(.bool sx),vx]:=hn31
 replace hb4:=hb4.exc hx32 (bR lt_b2_b7)
 refine⟨.inr (.inr hb4),?_⟩
 refine aA 5 rfl (v:=ux) rfl ?_
 refine RA.done kR ?_
 refine gH ?_
 refine⟨[(.agg #[(.bool sx),vx]),ux],⟨⟨_,_,[(.bool sx),vx],rfl,⟨_,iK⟩,hb9.cells rfl,.inl ⟨rG,⟨_,_,iB⟩,rfl⟩⟩,⟨rfl,trivial⟩⟩,?_⟩
 have hm34:=aB he3 (aB he8 (aB he13 he27))
 replace hx:=(hx.tr (aH hm34)).apn hx32 nb_hx32
 replace hdx:=(hdx.tr (aH (aB he13 he27))).apn hx32 nb_hx32
 exact⟨⟨_,_,_,_,_,rfl,hx.mono (λ_ _ _=>trivial),lmx,aI _,hdx.mono (λ_ _ _=>trivial),lmdx,Nat.le_succ _,hz,ex⟩,hE⟩
theorem aBn {w:World} {sx:Bool} {Dx:Nat->TypeId->Prop} {vx:Value} {x:List Nat} (hx:Sg (gN .u32) Dx w vx x) (lmx:Lm x) (lnx:x.length<=137438953472) {zx:Int} (ex:sg sx (val x)=zx) {Dd:Nat->TypeId->Prop} {vd:Value} {d:List Nat} (hd:Sg (gN .u32) Dd w vd d) (lmd:Lm d) (lnd:d.length<=137438953472) (hnz:val d≠0):
 Calls Tryz.prog 83 #[(.agg #[(.bool sx),vx]),vd] w λe w'=>∃v,e= .returned v/\(∃vn vd,v= .agg #[.bool (decide ((Rat.divInt zx ((val d:Nat):Int)).num<0)),vn,vd]/\Sg (gN .u32) (λb T=>w.heap.size<=b/\T=131) w' vn (aJ (Rat.divInt zx ((val d:Nat):Int)).num.natAbs)/\Sg (gN .u32) (λb T=>w.heap.size<=b/\T=131) w' vd (aJ (Rat.divInt zx ((val d:Nat):Int)).den)/\(aJ (Rat.divInt zx ((val d:Nat):Int)).num.natAbs).length<=x.length/\(aJ (Rat.divInt zx ((val d:Nat):Int)).den).length<=d.length+1)/\Ext w w':=by
 have hE:Below w.heap.size w w:=Below.refl _ _
 have hlzx:=wF lmx ex
 have hlvd:=eO lmd
 refine eE (n:=48) (rs:=[.cell 4 51]) func83 rfl rfl rfl bL ?_
 refine iU λF0 hF0=>?_
 refine wsr ?_
 refine rU (qT (cs:=[(.bool sx),vx]) (hF0 0) rfl) ?_
 rintro _ w1 ⟨b2,rfl,hs5,hb4,he3⟩
 have ge_b2:=hE.ge hs5
 replace hE:=hE.nx he3
 refine rU (jA (cs:=[(.bool false),(.slice none 0 0),(.slice none 0 0)]) jI rfl) ?_
 rintro _ w6 ⟨b7,rfl,hs10,hb9,he8⟩
 have lt_b2_b7:=cG hb4.lt hs10.symm
 have ge_b7:=hE.ge hs10
 replace hE:=hE.nx he8
 refine aE (wsr ?_)
 replace hb4:=hb4.ext he8
 have hc11:=hb4.cells (o:=0) (cs:=[(.bool sx),vx]) rfl
 refine rV (fT (o:=0) (cs:=[(.bool sx),vx]) iK rG iB rfl hc11) ?_
 replace hx:=hx.tr (aH (aB he3 he8))
 refine RL.call rfl rfl dC (gI (vl:=[(.agg #[(.bool sx),vx])]) bMl rfl) (bNb hx (by assumption) oS (show sg sx (val x)=zx from ex)) ?_
 rintro _ w12 ⟨⟨vr14,rfl,hr15,hl16⟩,he13⟩
 replace hr15:=hr15.fr hE
 replace hE:=hE.nx he13
 refine mV (v:=vd) (hF0 1) ?_
 have hm21:=aB he3 (aB he8 he13)
 replace hd:=hd.tr (aH hm21)
 refine cL aJk (n_trim hd (by assumption) oS) rfl ?_
 rintro vr19 w17 ⟨hr20,he18⟩
 replace hr20:=hr20.fr hE
 have hlt22:(aJ (val d)).length<=d.length:=lS (by assumption)
 replace hb4:=hb4.ext (aB he13 he18)
 refine fC rfl rfl (jK (cs:=[(bd (zx<0)),vr14]) (o:=0) iB rfl rfl rfl rfl (bG rfl (bG hr15.one fJ)) hb4 bL) ?_
 rintro w23 ⟨hn24,hx25,hz26⟩
 replace hE:=(hE.nx he18).nb hx25 ge_b2
 have nb_hx25:=(Nb.of hb4 (cH rfl (cH hx.nu iL)))
 replace hb4:Bk w23 b2 49 [(bd (zx<0)),vr14]:=hn24
 refine aS (v:=vr19) rfl (aE (dV (wsr (rV (cI iK rfl sF rfl) ?_))))
 have hc27:=hb4.cell (j:=1) (u:=vr14) rfl
 refine rV (dJ eC tF rfl hc27) ?_
 obtain⟨A28,c29,hv30,hc31,hc32⟩:=hr15.len
 refine rV (gX eC hv30) (rV (tA (k:=.i64) (a:=(((aJ zx.natAbs).length:Nat):Int)) (b:=0) rfl rfl) (aE ?_))
 refine wcD (p:=(((aJ zx.natAbs).length:Nat):Int)=0) rfl (λhb33 hb33p=>?_) (λhb33 hb33p=>?_)
 ·have hz0:zx=0:=by have h9:=kZ.1 (show len zx.natAbs=0 by unfold len;omega);omega
  refine wsr ?_
  refine rU (aMc (vl:=[(0,(.int .u32 1))]) (cs:=[(.int .u32 1)]) eC eR rfl dC (by first|(simp[Instr.fill,Value.cells];done)|rfl|kernel_rfl)) ?_
  rintro _ w34 ⟨b35,rfl,hs38,hb37,he36⟩
  replace hb9:=(hb9.ext (aB he13 he18)).exc hx25 (lJ lt_b2_b7)
  have lt_b7_b35:=cG hb9.lt hs38.symm
  have ge_b35:=hE.ge hs38
  refine rV (mQ (vl:=[(1,(.slice (some ⟨b35,0,none⟩) (1) (1)))]) (cs:=[(.bool false),(.slice none 0 0),(.slice (some ⟨b35,0,none⟩) (1) (1))]) kK jI rfl (aVe kK) rfl) ?_
  replace hb9:=hb9.ext he36
  refine fC rfl rfl (jK (cs:=[(.bool false),(.slice none 0 0),(.slice (some ⟨b35,0,none⟩) (1) (1))]) (o:=0) jI rfl rfl rfl rfl (bG rfl (bG rfl (bG rfl fJ))) hb9 bL) ?_
  rintro w39 ⟨hn40,hx41,hz42⟩
  replace hE:=(hE.nx he36).nb hx41 ge_b7
  replace hb9:Bk w39 b7 51 [(.bool false),(.slice none 0 0),(.slice (some ⟨b35,0,none⟩) (1) (1))]:=hn40
  refine aE ?_
  refine gH ?_
  refine⟨[(.agg #[(.bool false),(.slice none 0 0),(.slice (some ⟨b35,0,none⟩) (1) (1))])],⟨⟨_,_,[(.bool false),(.slice none 0 0),(.slice (some ⟨b35,0,none⟩) (1) (1))],rfl,⟨_,kK⟩,hb9.cells rfl,.inl ⟨oO,⟨_,_,jI⟩,rfl⟩⟩,trivial⟩,?_⟩
  rw[hz0,Rat.zero_divInt]
  replace hb37:=hb37.exc hx41 (lJ lt_b7_b35)
  exact⟨⟨_,_,rfl,Sg.nil,hb37.sg (g:=gN .u32) (D:=(λb T=>w.heap.size<=b/\T=131)) (xs:=[1]) ⟨ge_b35,rfl⟩ rfl rfl dC,aF _,show(aJ (0:Rat).den).length<=d.length+1 from rS (aF _)⟩,hE⟩
 have hz0:zx≠0:=λh=>by rw[h] at hb33p;exact hb33p rfl
 have hgp:0<Nat.gcd zx.natAbs (val d):=nB _ oM
 refine fL ?_
 refine wsr (rV (cI iK rfl sF rfl) ?_)
 have hc43:=hb4.cell (j:=1) (u:=vr14) rfl
 refine rV (dJ eC tF rfl hc43) (mV (v:=vr19) rfl ?_)
 replace hr15:=(hr15.tr (aH he18)).apn hx25 nb_hx25
 replace hr20:=hr20.apn hx25 nb_hx25
 refine cL bMm (bTv hr15 (cT _) oS hr20 (cT _) oS) rfl ?_
 rintro vr46 w44 ⟨hr47,he45⟩
 try rw[cX] at hr47
 try rw[cX] at hr47
 replace hr47:=hr47.fr hE
 replace hE:=hE.nx he45
 have hlv48:=bMj zx.natAbs (val d)
 refine aS (v:=vr46) rfl (aE (dV (wsr (mV (v:=vr46) rfl ?_))))
 obtain⟨A49,c50,hv51,hc52,hc53⟩:=hr47.len
 refine rV (gX eC hv51) (rV (xO (k:=.i64) (a:=(((aJ (Nat.gcd zx.natAbs (val d))).length:Nat):Int)) (b:=1) rfl rfl) (mV (v:=(bd ((((aJ (Nat.gcd zx.natAbs (val d))).length:Nat):Int)≠1))) rfl ?_))
 rcases bD ((((aJ (Nat.gcd zx.natAbs (val d))).length:Nat):Int)≠1) with ⟨hb54,hb54p⟩|⟨hb54,hb54p⟩
 ·refine RL.gno rfl rfl (aW hb54) rfl dC ?_
  refine RL.gno rfl rfl (aW hb54) rfl dC ?_
  refine RL.gno rfl rfl (aW hb54) rfl dC ?_
  refine RL.gno rfl rfl (aW hb54) rfl dC ?_
  refine rV (kT (v:=(.bool true)) (aW hb54) rfl) (aE ?_)
  refine wV rfl ?_
  refine wsr (rV (cI iK rfl sF rfl) ?_)
  replace hb4:=hb4.ext he45
  have hc55:=hb4.cell (j:=1) (u:=vr14) rfl
  refine rV (dJ eC tF rfl hc55) (mV (v:=vr46) rfl ?_)
  replace hr15:=hr15.tr (aH he45)
  refine cL aFz (yD hr15 (cT _) oS hr47 (cT _) oS) rfl ?_
  rintro vv62 w56 ⟨⟨vq58,vr60,hv63,hq59,hr61⟩,he57⟩
  simp only[cX] at hv63 hq59 hr61
  subst hv63
  have hlv64:=aFw zx.natAbs (Nat.gcd zx.natAbs (val d))
  have hlv65:=aBj zx.natAbs (Nat.gcd zx.natAbs (val d))
  have hlv66:=yB zx.natAbs (Nat.gcd zx.natAbs (val d))
  replace hq59:=hq59.fr hE
  replace hr61:=hr61.fr hE
  refine mV (v:=(.tuple #[vq58,vr60,(bd ((Nat.gcd zx.natAbs (val d))≠0))])) rfl (rV (bZ (v:=vq58) rfl rfl) (rV (bZ (v:=vr60) rfl rfl) (rV (bZ (v:=(bd ((Nat.gcd zx.natAbs (val d))≠0))) rfl rfl) (rV (cI iK rfl sF rfl) ?_))))
  replace hb4:=hb4.ext he57
  refine fC rfl rfl (zN (vv:=vq58) (cs:=[vq58]) (o:=1) sF rfl rfl (aDa hq59.one) rfl (bG hq59.one fJ) hb4 bL) ?_
  rintro w67 ⟨hn68,hx69,hz70⟩
  replace hE:=(hE.nx he57).nb hx69 ge_b2
  have nb_hx69:=(Nb.of hb4 (cH rfl (cH hr15.nu iL)))
  replace hb4:Bk w67 b2 49 [(bd (zx<0)),vq58]:=hn68
  refine aE (cV (mV (v:=vr19) rfl (mV (v:=vr46) rfl ?_)))
  replace hr20:=(hr20.tr (aH (aB he45 he57))).apn hx69 nb_hx69
  replace hr47:=(hr47.tr (aH he57)).apn hx69 nb_hx69
  refine cL aFz (yD hr20 (cT _) oS hr47 (cT _) oS) rfl ?_
  rintro vv77 w71 ⟨⟨vq73,vr75,hv78,hq74,hr76⟩,he72⟩
  simp only[cX] at hv78 hq74 hr76
  subst hv78
  have hlv79:=aFw (val d) (Nat.gcd zx.natAbs (val d))
  have hlv80:=aBj (val d) (Nat.gcd zx.natAbs (val d))
  have hlv81:=yB (val d) (Nat.gcd zx.natAbs (val d))
  replace hq74:=hq74.fr hE
  replace hr76:=hr76.fr hE
  refine mV (v:=(.tuple #[vq73,vr75,(bd ((Nat.gcd zx.natAbs (val d))≠0))])) rfl (rV (bZ (v:=vq73) rfl rfl) (rV (bZ (v:=vr75) rfl rfl) (rV (bZ (v:=(bd ((Nat.gcd zx.natAbs (val d))≠0))) rfl rfl) (aS (v:=vq73) rfl (aE (wsr ?_))))))
  replace hb4:=hb4.ext he72
  have hc82:=hb4.cells (o:=0) (cs:=[(bd (zx<0)),vq58]) rfl
  refine rV (fT (o:=0) (cs:=[(bd (zx<0)),vq58]) iK rG iB rfl hc82) (mV (v:=vq73) rfl (rV (mQ (vl:=[(0,(.agg #[(bd (zx<0)),vq58])),(1,vq73)]) (cs:=[(bd (zx<0)),vq58,vq73]) kK jI rfl (aVe kK) (by obtain⟨_,_,e0_,-,-⟩:=hq74.len;simp only[e0_];rfl)) ?_))
  replace hb9:=((((hb9.ext (aB he13 he18)).exc hx25 (lJ lt_b2_b7)).ext (aB he45 he57)).exc hx69 (lJ lt_b2_b7)).ext he72
  refine fC rfl rfl (jK (cs:=[(bd (zx<0)),vq58,vq73]) (o:=0) jI rfl rfl rfl rfl (bG rfl (bG hq59.one (bG hq74.one fJ))) hb9 bL) ?_
  rintro w83 ⟨hn84,hx85,hz86⟩
  replace hE:=(hE.nx he72).nb hx85 ge_b7
  have nb_hx85:=(Nb.of hb9 (cH rfl (cH rfl (cH rfl iL))))
  replace hb9:Bk w83 b7 51 [(bd (zx<0)),vq58,vq73]:=hn84
  refine aE ?_
  refine gH ?_
  refine⟨[(.agg #[(bd (zx<0)),vq58,vq73])],⟨⟨_,_,[(bd (zx<0)),vq58,vq73],rfl,⟨_,kK⟩,hb9.cells rfl,.inl ⟨oO,⟨_,_,jI⟩,rfl⟩⟩,trivial⟩,?_⟩
  have hlaw:=zR (z:=zx) hnz
  have hl1:=wY (a:=zx) (b:=((val d:Nat):Int))
  have hl2:=wZ (a:=zx) (b:=((val d:Nat):Int))
  rw[eD] at hl2
  replace hq59:=((hq59.apn hx69 nb_hx69).tr (aH he72)).apn hx85 nb_hx85
  replace hq74:=hq74.apn hx85 nb_hx85
  exact⟨⟨_,_,aBm (decide_eq_decide.2 hlaw.2.2.symm),by rw[hlaw.1];exact hq59,by rw[hlaw.2.1];exact hq74,by omega,by omega⟩,hE⟩
 have hone:=aSg (n:=Nat.gcd zx.natAbs (val d)) oM
 refine RL.gval rfl rfl (aW hb54) rfl dC (gS (v:=vr46) rfl) ?_
 obtain⟨b87,o88,c89,hv90,hc91⟩:=hr47.ix (i:=0) (0) oM oM
 rw[show(aJ (Nat.gcd zx.natAbs (val d))).getD (0) default=Nat.gcd zx.natAbs (val d) from hone.1] at hc91
 refine RL.gval rfl rfl (aW hb54) rfl dC (cA (i:=0) eC eR hv90 rfl oM oM) ?_
 refine RL.gval rfl rfl (aW hb54) rfl dC (dJ (v:=(.int .u32 (((Nat.gcd zx.natAbs (val d):Nat):Int)))) eS kH rfl hc91) ?_
 refine RL.gval rfl rfl (aW hb54) rfl dC (xO (k:=.u32) (a:=((Nat.gcd zx.natAbs (val d):Nat):Int)) (b:=1) rfl rfl) ?_
 refine rV (mO (v:=(bd (((Nat.gcd zx.natAbs (val d):Nat):Int)≠1))) (aW hb54) rfl) (aE ?_)
 refine wcD (p:=((Nat.gcd zx.natAbs (val d):Nat):Int)≠1) rfl (λhb92 hb92p=>?_) (λhb92 hb92p=>?_)
 ·refine wsr ?_
  refine rV (cI iK rfl sF rfl) ?_
  replace hb4:=hb4.ext he45
  have hc93:=hb4.cell (j:=1) (u:=vr14) rfl
  refine rV (dJ eC tF rfl hc93) (mV (v:=vr46) rfl ?_)
  replace hr15:=hr15.tr (aH he45)
  refine cL aFz (yD hr15 (cT _) oS hr47 (cT _) oS) rfl ?_
  rintro vv100 w94 ⟨⟨vq96,vr98,hv101,hq97,hr99⟩,he95⟩
  simp only[cX] at hv101 hq97 hr99
  subst hv101
  have hlv102:=aFw zx.natAbs (Nat.gcd zx.natAbs (val d))
  have hlv103:=aBj zx.natAbs (Nat.gcd zx.natAbs (val d))
  have hlv104:=yB zx.natAbs (Nat.gcd zx.natAbs (val d))
  replace hq97:=hq97.fr hE
  replace hr99:=hr99.fr hE
  refine mV (v:=(.tuple #[vq96,vr98,(bd ((Nat.gcd zx.natAbs (val d))≠0))])) rfl (rV (bZ (v:=vq96) rfl rfl) (rV (bZ (v:=vr98) rfl rfl) (rV (bZ (v:=(bd ((Nat.gcd zx.natAbs (val d))≠0))) rfl rfl) (rV (cI iK rfl sF rfl) ?_))))
  replace hb4:=hb4.ext he95
  refine fC rfl rfl (zN (vv:=vq96) (cs:=[vq96]) (o:=1) sF rfl rfl (aDa hq97.one) rfl (bG hq97.one fJ) hb4 bL) ?_
  rintro w105 ⟨hn106,hx107,hz108⟩
  replace hE:=(hE.nx he95).nb hx107 ge_b2
  have nb_hx107:=(Nb.of hb4 (cH rfl (cH hr15.nu iL)))
  replace hb4:Bk w105 b2 49 [(bd (zx<0)),vq96]:=hn106
  refine aE (cV (mV (v:=vr19) rfl (mV (v:=vr46) rfl ?_)))
  replace hr20:=(hr20.tr (aH (aB he45 he95))).apn hx107 nb_hx107
  replace hr47:=(hr47.tr (aH he95)).apn hx107 nb_hx107
  refine cL aFz (yD hr20 (cT _) oS hr47 (cT _) oS) rfl ?_
  rintro vv115 w109 ⟨⟨vq111,vr113,hv116,hq112,hr114⟩,he110⟩
  simp only[cX] at hv116 hq112 hr114
  subst hv116
  have hlv117:=aFw (val d) (Nat.gcd zx.natAbs (val d))
  have hlv118:=aBj (val d) (Nat.gcd zx.natAbs (val d))
  have hlv119:=yB (val d) (Nat.gcd zx.natAbs (val d))
  replace hq112:=hq112.fr hE
  replace hr114:=hr114.fr hE
  refine mV (v:=(.tuple #[vq111,vr113,(bd ((Nat.gcd zx.natAbs (val d))≠0))])) rfl (rV (bZ (v:=vq111) rfl rfl) (rV (bZ (v:=vr113) rfl rfl) (rV (bZ (v:=(bd ((Nat.gcd zx.natAbs (val d))≠0))) rfl rfl) (aS (v:=vq111) rfl (aE (wsr ?_))))))
  replace hb4:=hb4.ext he110
  have hc120:=hb4.cells (o:=0) (cs:=[(bd (zx<0)),vq96]) rfl
  refine rV (fT (o:=0) (cs:=[(bd (zx<0)),vq96]) iK rG iB rfl hc120) (mV (v:=vq111) rfl (rV (mQ (vl:=[(0,(.agg #[(bd (zx<0)),vq96])),(1,vq111)]) (cs:=[(bd (zx<0)),vq96,vq111]) kK jI rfl (aVe kK) (by obtain⟨_,_,e0_,-,-⟩:=hq112.len;simp only[e0_];rfl)) ?_))
  replace hb9:=((((hb9.ext (aB he13 he18)).exc hx25 (lJ lt_b2_b7)).ext (aB he45 he95)).exc hx107 (lJ lt_b2_b7)).ext he110
  refine fC rfl rfl (jK (cs:=[(bd (zx<0)),vq96,vq111]) (o:=0) jI rfl rfl rfl rfl (bG rfl (bG hq97.one (bG hq112.one fJ))) hb9 bL) ?_
  rintro w121 ⟨hn122,hx123,hz124⟩
  replace hE:=(hE.nx he110).nb hx123 ge_b7
  have nb_hx123:=(Nb.of hb9 (cH rfl (cH rfl (cH rfl iL))))
  replace hb9:Bk w121 b7 51 [(bd (zx<0)),vq96,vq111]:=hn122
  refine aE ?_
  refine gH ?_
  refine⟨[(.agg #[(bd (zx<0)),vq96,vq111])],⟨⟨_,_,[(bd (zx<0)),vq96,vq111],rfl,⟨_,kK⟩,hb9.cells rfl,.inl ⟨oO,⟨_,_,jI⟩,rfl⟩⟩,trivial⟩,?_⟩
  have hlaw:=zR (z:=zx) hnz
  have hl1:=wY (a:=zx) (b:=((val d:Nat):Int))
  have hl2:=wZ (a:=zx) (b:=((val d:Nat):Int))
  rw[eD] at hl2
  replace hq97:=((hq97.apn hx107 nb_hx107).tr (aH he110)).apn hx123 nb_hx123
  replace hq112:=hq112.apn hx123 nb_hx123
  exact⟨⟨_,_,aBm (decide_eq_decide.2 hlaw.2.2.symm),by rw[hlaw.1];exact hq97,by rw[hlaw.2.1];exact hq112,by omega,by omega⟩,hE⟩
 have hg1:Nat.gcd zx.natAbs (val d)=1:=by omega
 refine fL ?_
 refine wsr ?_
 replace hb4:=hb4.ext he45
 have hc125:=hb4.cells (o:=0) (cs:=[(bd (zx<0)),vr14]) rfl
 refine rV (fT (o:=0) (cs:=[(bd (zx<0)),vr14]) iK rG iB rfl hc125) (mV (v:=vr19) rfl (rV (mQ (vl:=[(0,(.agg #[(bd (zx<0)),vr14])),(1,vr19)]) (cs:=[(bd (zx<0)),vr14,vr19]) kK jI rfl (aVe kK) (by obtain⟨_,_,e0_,-,-⟩:=hr20.len;simp only[e0_];rfl)) ?_))
 replace hb9:=((hb9.ext (aB he13 he18)).exc hx25 (lJ lt_b2_b7)).ext he45
 refine fC rfl rfl (jK (cs:=[(bd (zx<0)),vr14,vr19]) (o:=0) jI rfl rfl rfl rfl (bG rfl (bG hr15.one (bG hr20.one fJ))) hb9 bL) ?_
 rintro w126 ⟨hn127,hx128,hz129⟩
 replace hE:=hE.nb hx128 ge_b7
 have nb_hx128:=(Nb.of hb9 (cH rfl (cH rfl (cH rfl iL))))
 replace hb9:Bk w126 b7 51 [(bd (zx<0)),vr14,vr19]:=hn127
 refine aE ?_
 refine gH ?_
 refine⟨[(.agg #[(bd (zx<0)),vr14,vr19])],⟨⟨_,_,[(bd (zx<0)),vr14,vr19],rfl,⟨_,kK⟩,hb9.cells rfl,.inl ⟨oO,⟨_,_,jI⟩,rfl⟩⟩,trivial⟩,?_⟩
 have hlaw:=zR (z:=zx) hnz
 have hl1:=wY (a:=zx) (b:=((val d:Nat):Int))
 have hl2:=wZ (a:=zx) (b:=((val d:Nat):Int))
 rw[eD] at hl2
 rw[hg1,zL,zL] at hlaw
 replace hr15:=(hr15.tr (aH he45)).apn hx128 nb_hx128
 replace hr20:=(hr20.tr (aH he45)).apn hx128 nb_hx128
 exact⟨⟨_,_,aBm (decide_eq_decide.2 hlaw.2.2.symm),by rw[hlaw.1];exact hr15,by rw[hlaw.2.1];exact hr20,by omega,by omega⟩,hE⟩
theorem xC {w:World} {sx:Bool} {Dx Ex:Nat->TypeId->Prop} {vx ux:Value} {x dx:List Nat} (hx:Sg (gN .u32) Dx w vx x) (lmx:Lm x) (lnx:x.length<=68719476736) (hdx:Sg (gN .u32) Ex w ux dx) (lmdx:Lm dx) (lndx:dx.length<=68719476736) {qx:Rat} (ex:jH sx (val x) (val dx)=qx):
 Calls Tryz.prog 81 #[(.agg #[(.bool sx),vx,ux])] w λe w'=>∃v,e= .returned v/\(∃(n d:Int) (ok:Bool),v= .tuple #[.int .i64 n,.int .i64 d,.bool ok]/\(ok=true->-2147483648<n/\n<2147483648/\0<d/\d<2147483648/\Rat.divInt n d=qx))/\Ext w w':=by
 have hE:Below w.heap.size w w:=Below.refl _ _
 have hlqx:=aAi lmx lmdx ex
 have hdqx:=kJ qx
 refine eE (n:=52) (rs:=[.tmp 2,.tmp 3,.tmp 4]) func81 rfl rfl rfl bL ?_
 refine iU λF0 hF0=>?_
 refine wsr ?_
 refine rU (qT (cs:=[(.bool sx),vx,ux]) (hF0 0) rfl) ?_
 rintro _ w1 ⟨b2,rfl,hs5,hb4,he3⟩
 have ge_b2:=hE.ge hs5
 refine aS (v:=(iv 0)) rfl (aS (v:=(iv 0)) rfl (aS (v:=(.bool false)) rfl (aE (wsr (rV (cI kK rfl iB rfl) (rV (cI iK rfl sF rfl) ?_))))))
 have hc6:=hb4.cell (j:=1) (u:=vx) rfl
 refine rV (dJ eC tF rfl hc6) ?_
 replace hx:=hx.tr (aH he3)
 refine cL aXh (aXq hx (by assumption) oS) rfl ?_
 rintro vq9 w7 ⟨hq10,he8⟩
 subst hq10
 refine mV (v:=(.tuple #[(.int .u64 (((if (val x)<18446744073709551616 then (val x) else 0:Nat):Int))),(bd ((val x)<18446744073709551616))])) rfl (rV (bZ (v:=(.int .u64 (((if (val x)<18446744073709551616 then (val x) else 0:Nat):Int)))) rfl rfl) (rV (bZ (v:=(bd ((val x)<18446744073709551616))) rfl rfl) (aS (v:=(.int .u64 (((if (val x)<18446744073709551616 then (val x) else 0:Nat):Int)))) rfl (aS (v:=(bd ((val x)<18446744073709551616))) rfl (aE (wsr (rV (cI kK rfl sF rfl) ?_)))))))
 replace hb4:=hb4.ext he8
 have hc11:=hb4.cell (j:=2) (u:=ux) rfl
 refine rV (dJ eC tF rfl hc11) ?_
 replace hdx:=hdx.tr (aH (aB he3 he8))
 refine cL aXh (aXq hdx (by assumption) oS) rfl ?_
 rintro vq14 w12 ⟨hq15,he13⟩
 subst hq15
 replace hE:=((hE.nx he3).nx he8).nx he13
 refine mV (v:=(.tuple #[(.int .u64 (((if (val dx)<18446744073709551616 then (val dx) else 0:Nat):Int))),(bd ((val dx)<18446744073709551616))])) rfl (rV (bZ (v:=(.int .u64 (((if (val dx)<18446744073709551616 then (val dx) else 0:Nat):Int)))) rfl rfl) (rV (bZ (v:=(bd ((val dx)<18446744073709551616))) rfl rfl) (aS (v:=(.int .u64 (((if (val dx)<18446744073709551616 then (val dx) else 0:Nat):Int)))) rfl (aS (v:=(bd ((val dx)<18446744073709551616))) rfl (aE (dV ?_))))))
 refine gC ?_
 refine wsr (mV (v:=(bd ((val x)<18446744073709551616))) rfl (rV (aFr rfl) (mV (v:=(.bool (!(decide ((val x)<18446744073709551616))))) rfl ?_)))
 rcases iJ (!(decide ((val x)<18446744073709551616))) with hb16|hb16
 ·have hb16p:=hb16
  refine RL.gno rfl rfl (aW hb16) rfl dC ?_
  refine RL.gno rfl rfl (aW hb16) rfl dC ?_
  refine rV (kT (v:=(.bool true)) (aW hb16) rfl) (mV (v:=(.bool true)) rfl ?_)
  refine RL.gno rfl rfl rfl rfl dC ?_
  refine RL.gno rfl rfl rfl rfl dC ?_
  refine rV (kT (v:=(.bool true)) rfl rfl) (mV (v:=(.bool true)) rfl ?_)
  refine RL.gno rfl rfl rfl rfl dC ?_
  refine RL.gno rfl rfl rfl rfl dC ?_
  refine rV (kT (v:=(.bool true)) rfl rfl) (aS (v:=(.bool true)) rfl (aE ?_))
  refine wV rfl ?_
  refine wsr (aS (v:=(iv 0)) rfl (aS (v:=(iv 0)) rfl (aS (v:=(.bool false)) rfl (aE ?_))))
  refine gH ?_
  refine⟨[(iv 0),(iv 0),(.bool false)],⟨rfl,⟨rfl,⟨rfl,trivial⟩⟩⟩,?_⟩
  exact⟨⟨_,_,_,rfl,λh=>by cases h⟩,hE⟩
 have hb16p:=hb16
 have hx64:val x<18446744073709551616:=by simpa using hb16
 refine RL.gval rfl rfl (aW hb16) rfl dC (gS (v:=(bd ((val dx)<18446744073709551616))) rfl) ?_
 refine RL.gval rfl rfl (aW hb16) rfl dC (aFr rfl) ?_
 refine rV (mO (v:=(.bool (!(decide ((val dx)<18446744073709551616))))) (aW hb16) rfl) (mV (v:=(.bool (!(decide ((val dx)<18446744073709551616))))) rfl ?_)
 rcases iJ (!(decide ((val dx)<18446744073709551616))) with hb17|hb17
 ·have hb17p:=hb17
  refine RL.gno rfl rfl (aW hb17) rfl dC ?_
  refine RL.gno rfl rfl (aW hb17) rfl dC ?_
  refine rV (kT (v:=(.bool true)) (aW hb17) rfl) (mV (v:=(.bool true)) rfl ?_)
  refine RL.gno rfl rfl rfl rfl dC ?_
  refine RL.gno rfl rfl rfl rfl dC ?_
  refine rV (kT (v:=(.bool true)) rfl rfl) (aS (v:=(.bool true)) rfl (aE ?_))
  refine wV rfl ?_
  refine wsr (aS (v:=(iv 0)) rfl (aS (v:=(iv 0)) rfl (aS (v:=(.bool false)) rfl (aE ?_))))
  refine gH ?_
  refine⟨[(iv 0),(iv 0),(.bool false)],⟨rfl,⟨rfl,⟨rfl,trivial⟩⟩⟩,?_⟩
  exact⟨⟨_,_,_,rfl,λh=>by cases h⟩,hE⟩
 have hb17p:=hb17
 have hd64:val dx<18446744073709551616:=by first|(simpa using hb17)|(have h8:=hb17p;simpa using h8)
 refine RL.gval rfl rfl (aW hb17) rfl dC (gS (v:=(.int .u64 (((if (val x)<18446744073709551616 then (val x) else 0:Nat):Int)))) rfl) ?_
 refine RL.gval rfl rfl (aW hb17) rfl dC (aEa (k:=.u64) (a:=((if (val x)<18446744073709551616 then (val x) else 0:Nat):Int)) (b:=2147483648) rfl rfl) ?_
 refine rV (mO (v:=(bd (2147483648<=((if (val x)<18446744073709551616 then (val x) else 0:Nat):Int)))) (aW hb17) rfl) (mV (v:=(bd (2147483648<=((if (val x)<18446744073709551616 then (val x) else 0:Nat):Int)))) rfl ?_)
 rcases bD (2147483648<=((if (val x)<18446744073709551616 then (val x) else 0:Nat):Int)) with ⟨hb18,hb18p⟩|⟨hb18,hb18p⟩
 ·refine RL.gno rfl rfl (aW hb18) rfl dC ?_
  refine RL.gno rfl rfl (aW hb18) rfl dC ?_
  refine rV (kT (v:=(.bool true)) (aW hb18) rfl) (aS (v:=(.bool true)) rfl (aE ?_))
  refine wV rfl ?_
  refine wsr (aS (v:=(iv 0)) rfl (aS (v:=(iv 0)) rfl (aS (v:=(.bool false)) rfl (aE ?_))))
  refine gH ?_
  refine⟨[(iv 0),(iv 0),(.bool false)],⟨rfl,⟨rfl,⟨rfl,trivial⟩⟩⟩,?_⟩
  exact⟨⟨_,_,_,rfl,λh=>by cases h⟩,hE⟩
 have hx31:=hb18p
 rw[if_pos hx64] at hx31
 refine RL.gval rfl rfl (aW hb18) rfl dC (gS (v:=(.int .u64 (((if (val dx)<18446744073709551616 then (val dx) else 0:Nat):Int)))) rfl) ?_
 refine RL.gval rfl rfl (aW hb18) rfl dC (aEa (k:=.u64) (a:=((if (val dx)<18446744073709551616 then (val dx) else 0:Nat):Int)) (b:=2147483648) rfl rfl) ?_
 refine rV (mO (v:=(bd (2147483648<=((if (val dx)<18446744073709551616 then (val dx) else 0:Nat):Int)))) (aW hb18) rfl) (aS (v:=(bd (2147483648<=((if (val dx)<18446744073709551616 then (val dx) else 0:Nat):Int)))) rfl (aE ?_))
 refine wcD (p:=2147483648<=((if (val dx)<18446744073709551616 then (val dx) else 0:Nat):Int)) rfl (λhb19 hb19p=>?_) (λhb19 hb19p=>?_)
 ·refine wsr ?_
  refine aS (v:=(iv 0)) rfl (aS (v:=(iv 0)) rfl (aS (v:=(.bool false)) rfl (aE ?_)))
  refine gH ?_
  refine⟨[(iv 0),(iv 0),(.bool false)],⟨rfl,⟨rfl,⟨rfl,trivial⟩⟩⟩,?_⟩
  exact⟨⟨_,_,_,rfl,λh=>by cases h⟩,hE⟩
 have hd31:=hb19p
 rw[if_pos hd64] at hd31
 refine wsr (mV (v:=(.int .u64 (((if (val dx)<18446744073709551616 then (val dx) else 0:Nat):Int)))) rfl (rV (tA (k:=.u64) (a:=((if (val dx)<18446744073709551616 then (val dx) else 0:Nat):Int)) (b:=0) rfl rfl) (aS (v:=(bd (((if (val dx)<18446744073709551616 then (val dx) else 0:Nat):Int)=0))) rfl (aE ?_))))
 refine wcD (p:=((if (val dx)<18446744073709551616 then (val dx) else 0:Nat):Int)=0) rfl (λhb20 hb20p=>?_) (λhb20 hb20p=>?_)
 ·have hz:val dx=0:=by have h8:=hb20p;rw[if_pos hd64] at h8;omega
  refine wsr (aS (v:=(iv 0)) rfl (aS (v:=(iv 1)) rfl (aS (v:=(.bool true)) rfl (aE ?_))))
  refine gH ?_
  refine⟨[(iv 0),(iv 1),(.bool true)],⟨rfl,⟨rfl,⟨rfl,trivial⟩⟩⟩,?_⟩
  exact⟨⟨_,_,_,rfl,λ_=>⟨by decide,by decide,by decide,by decide,by rw[<-ex,hz,aGd];exact Rat.zero_divInt _⟩⟩,hE⟩
 have hz:val dx≠0:=by have h8:=hb20p;rw[if_pos hd64] at h8;omega
 refine wsr (rV (cI kK rfl iB rfl) (rV (cI iK rfl ty4 rfl) ?_))
 replace hb4:=hb4.ext he13
 have hc21:=hb4.cell (j:=0) (u:=(.bool sx)) rfl
 refine rV (dJ uT4 ag4 rfl hc21) (aS (v:=(.bool sx)) rfl (aE ?_))
 refine uQ (b:=sx) rfl (λhb22=>?_) (λhb22=>?_)
 ·have hb22p:=hb22
  have hsx:sx=true:=hb22
  refine wsr (mV (v:=(.int .u64 (((if (val x)<18446744073709551616 then (val x) else 0:Nat):Int)))) rfl (rV (fE (k:=.i64) (a:=((if (val x)<18446744073709551616 then (val x) else 0:Nat):Int)) (c:=((val x:Nat):Int)) jE uT2 rfl (by rw[if_pos hx64];exact jS oM)) (rV (aRv (k:=.i64) (a:=((val x:Nat):Int)) (c:=-((val x:Nat):Int)) rfl ((jS oM).trans oM)) (mV (v:=(.int .u64 (((if (val dx)<18446744073709551616 then (val dx) else 0:Nat):Int)))) rfl (rV (fE (k:=.i64) (a:=((if (val dx)<18446744073709551616 then (val dx) else 0:Nat):Int)) (c:=((val dx:Nat):Int)) jE uT2 rfl (by rw[if_pos hd64];exact jS oM)) (aS (v:=(iv (-((val x:Nat):Int)))) rfl (aS (v:=(iv (val dx:Nat))) rfl (aS (v:=(.bool true)) rfl (aE ?_)))))))))
  refine gH ?_
  refine⟨[(iv (-((val x:Nat):Int))),(iv (val dx:Nat)),(.bool true)],⟨rfl,⟨rfl,⟨rfl,trivial⟩⟩⟩,?_⟩
  exact⟨⟨_,_,_,rfl,λ_=>⟨by omega,by omega,by omega,by omega,by rw[<-ex,hsx];rfl⟩⟩,hE⟩
 have hb22p:=hb22
 have hsx:sx=false:=hb22
 refine fL ?_
 refine wsr (mV (v:=(.int .u64 (((if (val x)<18446744073709551616 then (val x) else 0:Nat):Int)))) rfl (rV (fE (k:=.i64) (a:=((if (val x)<18446744073709551616 then (val x) else 0:Nat):Int)) (c:=((val x:Nat):Int)) jE uT2 rfl (by rw[if_pos hx64];exact jS oM)) (mV (v:=(.int .u64 (((if (val dx)<18446744073709551616 then (val dx) else 0:Nat):Int)))) rfl (rV (fE (k:=.i64) (a:=((if (val dx)<18446744073709551616 then (val dx) else 0:Nat):Int)) (c:=((val dx:Nat):Int)) jE uT2 rfl (by rw[if_pos hd64];exact jS oM)) (aS (v:=(iv (val x:Nat))) rfl (aS (v:=(iv (val dx:Nat))) rfl (aS (v:=(.bool true)) rfl (aE ?_))))))))
 refine gH ?_
 refine⟨[(iv (val x:Nat)),(iv (val dx:Nat)),(.bool true)],⟨rfl,⟨rfl,⟨rfl,trivial⟩⟩⟩,?_⟩
 exact⟨⟨_,_,_,rfl,λ_=>⟨by omega,by omega,by omega,by omega,by rw[<-ex,hsx];rfl⟩⟩,hE⟩
theorem aOv {w:World} {n d:Int} (hn:-9223372036854775807<=n/\n<=9223372036854775807) (hd:0<d/\d<=9223372036854775807):
 Calls Tryz.prog 82 #[(iv n),(iv d)] w λe w'=>∃v,e= .returned v/\(∃vn vd,v= .agg #[.bool (decide ((Rat.divInt n d).num<0)),vn,vd]/\Sg (gN .u32) (λb T=>w.heap.size<=b/\T=131) w' vn (aJ (Rat.divInt n d).num.natAbs)/\Sg (gN .u32) (λb T=>w.heap.size<=b/\T=131) w' vd (aJ (Rat.divInt n d).den)/\(aJ (Rat.divInt n d).num.natAbs).length<=2/\(aJ (Rat.divInt n d).den).length<=2)/\Ext w w':=by
 have hE:Below w.heap.size w w:=Below.refl _ _
 refine eE (n:=36) (rs:=[.cell 4 51]) func82 rfl rfl rfl bL ?_
 refine iU λF0 hF0=>?_
 refine wsr ?_
 refine rU (jA (cs:=[(.bool false),(.slice none 0 0),(.slice none 0 0)]) jI rfl) ?_
 rintro _ w1 ⟨b2,rfl,hs5,hb4,he3⟩
 have ge_b2:=hE.ge hs5
 replace hE:=hE.nx he3
 refine aE (wsr (mV (v:=(iv n)) (hF0 0) (rV (fE (k:=.u64) (a:=n) (c:=n%18446744073709551616) uT2 jE rfl (aMb _)) (aS (v:=(.int .u64 (n%18446744073709551616))) rfl (aE ?_)))))
 refine iU λF6 hF7=>?_
 refine vN (λfl wl=>Off [5,10,11,12,13] F6 fl/\fl 5=(.int .u64 (((n.natAbs:Nat):Int)))/\(Below w.heap.size w wl)/\(Bk wl b2 51 [(.bool false),(.slice none 0 0),(.slice none 0 0)])) ?_ ?_
 ·have G8:=Off.refl [5,10,11,12,13] F6
  refine wsr (mV (v:=(iv n)) ((hF7 0).trans (hF0 0)) (rV (mP (k:=.i64) (a:=n) (b:=0) rfl rfl) (aE ?_)))
  refine wcD (p:=n<0) rfl (λhb9 hb9p=>?_) (λhb9 hb9p=>?_)
  ·refine cV ?_
   refine mV (v:=(.int .u64 (n%18446744073709551616))) (hF7 5) (rV (aRv (k:=.u64) (a:=n%18446744073709551616) (c:=((n.natAbs:Nat):Int)) rfl (by rw[aMb];omega)) (aS (v:=(.int .u64 (((n.natAbs:Nat):Int)))) rfl (aE ?_)))
   refine⟨?_,?_,?_,?_⟩
   ·exact(by repeat (first|exact G8|refine Off.st ?_ dC _))
   ·first|rfl|exact cQ oM
   ·exact hE
   exact hb4
  refine fL ?_
  refine⟨?_,?_,?_,?_⟩
  ·exact(by repeat (first|exact G8|refine Off.st ?_ dC _))
  ·refine((hF7 5)).trans ?_
   first|rfl|exact cQ oM
  ·exact hE
  exact hb4
 clear hE hb4
 rintro f10 w11 ⟨G12,hs13,hE,hb4⟩
 refine wsr (mV (v:=(iv d)) ((G12 1 rfl).trans ((hF7 1).trans (hF0 1))) (rV (fE (k:=.u64) (a:=d) (c:=((d.natAbs:Nat):Int)) uT2 jE rfl ((iV oM).trans oM)) (mV hs13 (aS (v:=(.int .u64 (((d.natAbs:Nat):Int)))) rfl (aS (v:=(.int .u64 (((n.natAbs:Nat):Int)))) rfl (aE (dV ?_)))))))
 refine gC ?_
 refine iU λF14 hF15=>?_
 refine oP (σ:=Nat×Nat) (λ(s:Nat×Nat) fl wl=>match s with|(g,r)=>Off (rg 6 2 (rg 17 6 [])) F14 fl/\fl 6=(.int .u64 (g:Int))/\fl 7=(.int .u64 (r:Int))/\(Nat.gcd g r=Nat.gcd n.natAbs d.natAbs)/\(g<18446744073709551616)/\(r<18446744073709551616)/\(Below w.heap.size w wl)/\(Bk wl b2 51 [(.bool false),(.slice none 0 0),(.slice none 0 0)])) (λ(s:Nat×Nat)=>match s with|(g,r)=>r) (d.natAbs,n.natAbs) ?_ ?_
 ·exact⟨Off.refl _ _,(hF15 6).trans (rfl),(hF15 7).trans (rfl),kQ _ _,by omega,by omega,hE,hb4⟩
 clear hE hb4
 rintro⟨g,r⟩ f16 w17 ⟨G18,hs19,hs20,hg,hg64,hr64,hE,hb4⟩
 refine dV (wsr (mV hs20 (rV (xO (k:=.u64) (a:=(r:Int)) (b:=0) rfl rfl) (aE ?_))))
 refine wcD (p:=(r:Int)≠0) rfl (λhb21 hb21p=>?_) (λhb21 hb21p=>?_)
 ·have hr0:r≠0:=by omega
  have hdm:=dM g (show 0<r by omega)
  refine fL ?_
  refine gC ?_
  refine oQ pJ λw22 he23=>?_
  replace hE:=hE.nx he23
  refine aM 0 rfl (v:=(.int .u64 (r:Int))) hs20 ?_
  refine aM 1 rfl (v:=(.int .u64 (g:Int))) hs19 ?_
  refine aM 2 rfl (v:=(.int .u64 (r:Int))) hs20 ?_
  refine ra 3 rfl (λ_=>aDz (k:=.u64) (a:=(g:Int)) (b:=(r:Int)) (c:=((g%r:Nat):Int)) rfl rfl oM (aVg _ _)) ?_
  refine aA 4 rfl (v:=(.int .u64 (r:Int))) rfl ?_
  refine aA 5 rfl (v:=(.int .u64 (((g%r:Nat):Int)))) rfl ?_
  refine RA.done kR ?_
  replace hb4:=hb4.ext he23
  refine⟨(r,g%r),⟨?_,?_,?_,?_,?_,?_,?_,?_⟩,?_⟩
  ·exact(by repeat (first|exact G18|refine Off.st ?_ dC _|refine Off.via G12 dC ?_|refine Off.eq hF7 ?_))
  ·first|rfl|exact cQ oM|exact aW (by simp)
  ·first|rfl|exact cQ oM|exact aW (by simp)
  ·rw[<-hg,kQ,<-zK,kQ]
  ·omega
  ·omega
  ·exact hE
  ·exact hb4
  (try dsimp only)
  omega
 have hr0:r=0:=by omega
 rw[hr0,qG] at hg
 have hgcd:=hg
 have hgp:0<g:=by rw[hg];exact nB _ oM
 have hq1:=iT n.natAbs g
 have hq2:=iT d.natAbs g
 refine nG ?_
 refine dV ?_
 refine oQ pJ λw24 he25=>?_
 replace hE:=hE.nx he25
 refine aM 0 rfl (v:=(iv n)) ((G18 0 rfl).trans ((hF15 0).trans ((G12 0 rfl).trans ((hF7 0).trans (hF0 0))))) ?_
 refine ra 1 rfl (λ_=>mP (k:=.i64) (a:=n) (b:=0) rfl rfl) ?_
 refine aM 2 rfl (v:=(.int .u64 (((n.natAbs:Nat):Int)))) ((G18 5 rfl).trans ((hF15 5).trans hs13)) ?_
 refine aM 3 rfl (v:=(.int .u64 (g:Int))) hs19 ?_
 refine ra 4 rfl (λ_=>aBe (k:=.u64) (a:=((n.natAbs:Nat):Int)) (b:=(g:Int)) (c:=((n.natAbs/g:Nat):Int)) rfl rfl oM (quoN oM)) ?_
 refine aM 7 rfl (v:=(iv d)) ((G18 1 rfl).trans ((hF15 1).trans ((G12 1 rfl).trans ((hF7 1).trans (hF0 1))))) ?_
 refine ra 8 rfl (λ_=>fE (k:=.u64) (a:=d) (c:=((d.natAbs:Nat):Int)) uT2 jE rfl ((iV oM).trans oM)) ?_
 refine aM 9 rfl (v:=(.int .u64 (g:Int))) hs19 ?_
 refine ra 10 rfl (λ_=>aBe (k:=.u64) (a:=((d.natAbs:Nat):Int)) (b:=(g:Int)) (c:=((d.natAbs/g:Nat):Int)) rfl rfl oM (quoN oM)) ?_
 refine RA.all [5] kR rfl ?_
 refine cS vU (vV oM) rfl rfl ?_ RS.nil
 rintro vr28 w26 ⟨hr29,he27⟩
 refine rm he27 ?_
 replace hr29:=hr29.fr hE
 replace hE:=hE.nx he27
 have hlv30:=vT (n:=n.natAbs/g) oM
 refine ra 6 rfl (λ_=>mQ (vl:=[(0,(bd (n<0))),(1,vr28)]) (cs:=[(bd (n<0)),vr28]) iK iB rfl (aMk iK) (by obtain⟨_,_,e0_,-,-⟩:=hr29.len;simp only[e0_];rfl)) ?_
 refine RA.all [11] kR rfl ?_
 refine cS vU (vV oM) rfl rfl ?_ RS.nil
 rintro vr33 w31 ⟨hr34,he32⟩
 refine rm he32 ?_
 replace hr34:=hr34.fr hE
 have hlv35:=vT (n:=d.natAbs/g) oM
 refine ra 12 rfl (λ_=>mQ (vl:=[(0,(.agg #[(bd (n<0)),vr28])),(1,vr33)]) (cs:=[(bd (n<0)),vr28,vr33]) kK jI rfl (aVe kK) (by obtain⟨_,_,e0_,-,-⟩:=hr34.len;simp only[e0_];rfl)) ?_
 refine RA.all [13] kR rfl ?_
 have hm40:=aB he25 (aB he27 he32)
 replace hb4:=hb4.ext hm40
 refine RS.runs rfl rfl rfl (jK (cs:=[(bd (n<0)),vr28,vr33]) (o:=0) jI ((G18 4 rfl).trans ((hF15 4).trans ((G12 4 rfl).trans (hF7 4)))) rfl rfl rfl (bG rfl (bG hr29.one (bG hr34.one fJ))) hb4 bL) ?_ RS.nil
 rintro w36 ⟨hn37,hx38,hz39⟩
 refine⟨.inr (.inl kR),?_⟩
 replace hE:=(hE.nx he32).nb hx38 ge_b2
 have nb_hx38:=(Nb.of hb4 (cH rfl (cH rfl (cH rfl iL))))
 replace hb4:Bk w36 b2 51 [(bd (n<0)),vr28,vr33]:=hn37
 refine RA.done kR ?_
 refine gH ?_
 refine⟨[(.agg #[(bd (n<0)),vr28,vr33])],⟨⟨_,_,[(bd (n<0)),vr28,vr33],((G18 4 rfl).trans ((hF15 4).trans ((G12 4 rfl).trans (hF7 4)))),⟨_,kK⟩,hb4.cells rfl,.inl ⟨oO,⟨_,_,jI⟩,rfl⟩⟩,trivial⟩,?_⟩
 have hlaw:=zR (z:=n) (d:=d.natAbs) oM
 rw[<-hgcd] at hlaw
 rw[show Rat.divInt n d=Rat.divInt n ((d.natAbs:Nat):Int) by rw[show((d.natAbs:Nat):Int)=d by omega]]
 replace hr29:=(hr29.tr (aH he32)).apn hx38 nb_hx38
 replace hr34:=hr34.apn hx38 nb_hx38
 exact⟨⟨_,_,aBm (decide_eq_decide.2 hlaw.2.2.symm),by rw[hlaw.1];exact hr29,by rw[hlaw.2.1];exact hr34,by rw[hlaw.1];omega,by rw[hlaw.2.1];omega⟩,hE⟩
theorem aSk {a b:Int} {p q:Rat} (h1:a<b↔p<q) (h2:b<a↔q<p):cmpI a b=cmpQ p q:=by
 unfold cmpI cmpQ
 simp only[h1,h2]
theorem aEf (q:Rat):0<q.num↔0<q:=by
 have h1:=yE q
 have h2:=dU (q:=q)
 constructor
 ·intro h
  have a1:¬q<0:=λh3=>by have:=h1.2 h3;omega
  have a2:q≠0:=λh3=>by have:=h2.2 h3;omega
  grind
 intro h
 have a1:¬q.num<0:=λh3=>by have:=h1.1 h3;grind
 have a2:q.num≠0:=λh3=>by have:=h2.1 h3;grind
 omega
theorem aIn {p q:Rat} (h:Int.sign p.num<Int.sign q.num):p<q:=by
 have a1:=yE p
 have a2:=aEf q
 have b1:=aEf p
 have b2:=yE q
 rcases gW p.num 0 with h1|h1|h1<;>rcases gW q.num 0 with h2|h2|h2<;>simp[h1,h2,fO,gJ] at h
 ·have c1:=a1.1 h1
  have c2:=dU.1 h2
  rw[c2];exact c1
 ·have c1:=a1.1 h1
  have c2:=a2.1 h2
  grind
 have c1:=dU.1 h1
 have c2:=a2.1 h2
 rw[c1];exact c2
theorem aVp {p q:Rat} (h:Int.sign p.num≠Int.sign q.num):cmpI (Int.sign p.num) (Int.sign q.num)=cmpQ p q:=by
 rcases Int.lt_or_gt_of_ne h with h1|h1
 ·have h2:=aIn h1
  unfold cmpI cmpQ
  rw[if_pos h1,if_pos h2]
 have h2:=aIn h1
 unfold cmpI cmpQ
 rw[if_neg oM,if_pos h1,if_neg (by grind),if_pos h2]
theorem q_norm {w:World} {sx:Bool} {Dx Ex:Nat->TypeId->Prop} {vx ux:Value} {x dx:List Nat} (hx:Sg (gN .u32) Dx w vx x) (lmx:Lm x) (lnx:x.length<=17179869184) (hdx:Sg (gN .u32) Ex w ux dx) (lmdx:Lm dx) (lndx:dx.length<=17179869184) {qx:Rat} (ex:jH sx (val x) (val dx)=qx):
 Calls Tryz.prog 67 #[(.agg #[(.bool sx),vx,ux])] w λe w'=>∃v,e= .returned v/\(∃vn vd,v= .agg #[.bool (decide (qx.num<0)),vn,vd]/\Sg (gN .u32) (λb T=>w.heap.size<=b/\T=131) w' vn (aJ qx.num.natAbs)/\Sg (gN .u32) (λb T=>w.heap.size<=b/\T=131) w' vd (aJ qx.den)/\(aJ qx.num.natAbs).length<=x.length/\(aJ qx.den).length<=dx.length+1)/\Ext w w':=by
 have hE:Below w.heap.size w w:=Below.refl _ _
 have hlqx:=aAi lmx lmdx ex
 have hdqx:=kJ qx
 refine eE (n:=21) (rs:=[.cell 2 51]) func67 rfl rfl rfl bL ?_
 refine iU λF0 hF0=>?_
 refine wsr ?_
 refine rU (qT (cs:=[(.bool sx),vx,ux]) (hF0 0) rfl) ?_
 rintro _ w1 ⟨b2,rfl,hs5,hb4,he3⟩
 have ge_b2:=hE.ge hs5
 replace hE:=hE.nx he3
 refine rU (jA (cs:=[(.bool false),(.slice none 0 0),(.slice none 0 0)]) jI rfl) ?_
 rintro _ w6 ⟨b7,rfl,hs10,hb9,he8⟩
 have lt_b2_b7:=cG hb4.lt hs10.symm
 have ge_b7:=hE.ge hs10
 refine aE (dV (wsr ?_))
 replace hb4:=hb4.ext he8
 have hc11:=hb4.cells (o:=0) (cs:=[(.bool sx),vx,ux]) rfl
 refine rV (fT (o:=0) (cs:=[(.bool sx),vx,ux]) kK oO jI rfl hc11) ?_
 replace hx:=hx.tr (aH (aB he3 he8))
 replace hdx:=hdx.tr (aH (aB he3 he8))
 refine RL.call rfl rfl dC (gI (vl:=[(.agg #[(.bool sx),vx,ux])]) aFx rfl) (xC hx (by assumption) oS hdx (by assumption) oS (show jH sx (val x) (val dx)=qx from ex)) ?_
 rintro _ w12 ⟨⟨nX,dX,okX,rfl,hsX⟩,he13⟩
 replace hE:=(hE.nx he8).nx he13
 refine mV (v:=(.tuple #[(iv nX),(iv dX),(.bool okX)])) rfl (rV (bZ (v:=(iv nX)) rfl rfl) (rV (bZ (v:=(iv dX)) rfl rfl) (rV (bZ (v:=(.bool okX)) rfl rfl) (aS (v:=(iv nX)) rfl (aS (v:=(iv dX)) rfl (aS (v:=(.bool okX)) rfl (aE (wsr (mV (v:=(.bool okX)) rfl (aE ?_))))))))))
 refine uQ (b:=okX) rfl (λhb14=>?_) (λhb14=>?_)
 ·have hb14p:=hb14
  have hok:okX=true:=hb14
  have hs1:=hsX hb14
  refine wsr (mV (v:=(iv nX)) rfl (mV (v:=(iv dX)) rfl ?_))
  refine cL aXg (aOv oM oM) rfl ?_
  rintro _ w15 ⟨⟨vn17,vd19,rfl,hn18,hd20,hl21,hl22⟩,he16⟩
  have hlv23:=kJ (Rat.divInt nX dX)
  replace hn18:=hn18.fr hE
  replace hd20:=hd20.fr hE
  replace hb9:=hb9.ext (aB he13 he16)
  refine fC rfl rfl (jK (cs:=[(bd ((Rat.divInt nX dX).num<0)),vn17,vd19]) (o:=0) jI rfl rfl rfl rfl (bG rfl (bG hn18.one (bG hd20.one fJ))) hb9 bL) ?_
  rintro w24 ⟨hn25,hx26,hz27⟩
  replace hE:=(hE.nx he16).nb hx26 ge_b7
  have nb_hx26:=(Nb.of hb9 (cH rfl (cH rfl (cH rfl iL))))
  replace hb9:Bk w24 b7 51 [(bd ((Rat.divInt nX dX).num<0)),vn17,vd19]:=hn25
  refine aE ?_
  refine gH ?_
  refine⟨[(.agg #[(bd ((Rat.divInt nX dX).num<0)),vn17,vd19])],⟨⟨_,_,[(bd ((Rat.divInt nX dX).num<0)),vn17,vd19],rfl,⟨_,kK⟩,hb9.cells rfl,.inl ⟨oO,⟨_,_,jI⟩,rfl⟩⟩,trivial⟩,?_⟩
  have hq:(Rat.divInt nX dX)=qx:=by first|exact(hsX hok).2.2.2.2|exact eqX
  replace hn18:=hn18.apn hx26 nb_hx26
  replace hd20:=hd20.apn hx26 nb_hx26
  exact⟨⟨_,_,aBm (congrArg (λz:Rat=>decide (z.num<0)) hq),by rw[<-hq];exact hn18,by rw[<-hq];exact hd20,by omega,by omega⟩,hE⟩
 have hb14p:=hb14
 refine fL ?_
 refine wsr ?_
 replace hb4:=hb4.ext he13
 have hc28:=hb4.cells (o:=0) (cs:=[(.bool sx),vx,ux]) rfl
 refine rV (fT (o:=0) (cs:=[(.bool sx),vx,ux]) kK oO jI rfl hc28) ?_
 replace hx:=hx.tr (aH he13)
 replace hdx:=hdx.tr (aH he13)
 refine RL.call rfl rfl dC (gI (vl:=[(.agg #[(.bool sx),vx,ux])]) aEb rfl) (uU hx (by assumption) oS hdx (by assumption) oS (show jH sx (val x) (val dx)=qx from ex)) ?_
 rintro _ w29 ⟨⟨sX,vnX,vdX,xnX,xdX,rfl,hnX,lmnX,lnnX,hdX,lmdX,lndX,nzX,eqX⟩,he30⟩
 replace hE:=hE.nx he30
 refine rV (bZ (v:=(.agg #[(.bool sX),vnX])) rfl rfl) (rV (bZ (v:=vdX) rfl rfl) ?_)
 refine RL.call rfl rfl dC (gI (vl:=[(.agg #[(.bool sX),vnX]),vdX]) aSd rfl) (aBn hnX lmnX oS rfl hdX lmdX oS (by first|assumption|exact hnz)) ?_
 rintro vv39 w31 ⟨⟨vn33,vd35,hv40,hn34,hd36,hl37,hl38⟩,he32⟩
 subst hv40
 have hlv41:=kJ (Rat.divInt (sg sX (val xnX)) (((val xdX):Nat):Int))
 replace hn34:=hn34.fr hE
 replace hd36:=hd36.fr hE
 have hm46:=aB he13 (aB he30 he32)
 replace hb9:=hb9.ext hm46
 refine fC rfl rfl (jK (cs:=[(bd ((Rat.divInt (sg sX (val xnX)) (((val xdX):Nat):Int)).num<0)),vn33,vd35]) (o:=0) jI rfl rfl rfl rfl (bG rfl (bG hn34.one (bG hd36.one fJ))) hb9 bL) ?_
 rintro w42 ⟨hn43,hx44,hz45⟩
 replace hE:=(hE.nx he32).nb hx44 ge_b7
 have nb_hx44:=(Nb.of hb9 (cH rfl (cH rfl (cH rfl iL))))
 replace hb9:Bk w42 b7 51 [(bd ((Rat.divInt (sg sX (val xnX)) (((val xdX):Nat):Int)).num<0)),vn33,vd35]:=hn43
 refine aE ?_
 refine gH ?_
 refine⟨[(.agg #[(bd ((Rat.divInt (sg sX (val xnX)) (((val xdX):Nat):Int)).num<0)),vn33,vd35])],⟨⟨_,_,[(bd ((Rat.divInt (sg sX (val xnX)) (((val xdX):Nat):Int)).num<0)),vn33,vd35],rfl,⟨_,kK⟩,hb9.cells rfl,.inl ⟨oO,⟨_,_,jI⟩,rfl⟩⟩,trivial⟩,?_⟩
 have hq:(Rat.divInt (sg sX (val xnX)) (((val xdX):Nat):Int))=qx:=by first|exact(hsX hok).2.2.2.2|exact eqX
 replace hn34:=hn34.apn hx44 nb_hx44
 replace hd36:=hd36.apn hx44 nb_hx44
 exact⟨⟨_,_,aBm (congrArg (λz:Rat=>decide (z.num<0)) hq),by rw[<-hq];exact hn34,by rw[<-hq];exact hd36,by omega,by omega⟩,hE⟩
theorem q_from {w:World} {k:Int} (hk:-9223372036854775808<=k/\k<=9223372036854775807):
 Calls Tryz.prog 64 #[(iv k)] w λe w'=>∃v,e= .returned v/\(∃vn vd,v= .agg #[.bool (decide (((k:Int):Rat).num<0)),vn,vd]/\Sg (gN .u32) (λb T=>w.heap.size<=b/\T=131) w' vn (aJ ((k:Int):Rat).num.natAbs)/\Sg (gN .u32) (λb T=>w.heap.size<=b/\T=131) w' vd (aJ ((k:Int):Rat).den)/\(aJ ((k:Int):Rat).num.natAbs).length<=2/\(aJ ((k:Int):Rat).den).length<=1)/\Ext w w':=by
 have hE:Below w.heap.size w w:=Below.refl _ _
 refine eE (n:=7) (rs:=[.cell 2 51]) func64 rfl rfl rfl bL ?_
 refine iU λF0 hF0=>?_
 refine wsr ?_
 refine rU (jA (cs:=[(.bool false),(.slice none 0 0),(.slice none 0 0)]) jI rfl) ?_
 rintro _ w1 ⟨b2,rfl,hs5,hb4,he3⟩
 have ge_b2:=hE.ge hs5
 replace hE:=hE.nx he3
 refine aE (wsr (mV (v:=(iv k)) (hF0 0) ?_))
 refine cL bMk (bNc oM) rfl ?_
 rintro _ w6 ⟨⟨vr8,rfl,hr9,hl10⟩,he7⟩
 replace hr9:=hr9.fr hE
 replace hE:=hE.nx he7
 refine rU (aMc (vl:=[(0,(.int .u32 1))]) (cs:=[(.int .u32 1)]) eC eR rfl dC (by first|(simp[Instr.fill,Value.cells];done)|rfl|kernel_rfl)) ?_
 rintro _ w11 ⟨b12,rfl,hs15,hb14,he13⟩
 replace hb4:=hb4.ext he7
 have lt_b2_b12:=cG hb4.lt hs15.symm
 have ge_b12:=hE.ge hs15
 refine rV (mQ (vl:=[(0,(.agg #[(bd (k<0)),vr8])),(1,(.slice (some ⟨b12,0,none⟩) (1) (1)))]) (cs:=[(bd (k<0)),vr8,(.slice (some ⟨b12,0,none⟩) (1) (1))]) kK jI rfl (aVe kK) rfl) ?_
 replace hb4:=hb4.ext he13
 refine fC rfl rfl (jK (cs:=[(bd (k<0)),vr8,(.slice (some ⟨b12,0,none⟩) (1) (1))]) (o:=0) jI rfl rfl rfl rfl (bG rfl (bG hr9.one (bG rfl fJ))) hb4 bL) ?_
 rintro w16 ⟨hn17,hx18,hz19⟩
 replace hE:=(hE.nx he13).nb hx18 ge_b2
 have nb_hx18:=(Nb.of hb4 (cH rfl (cH rfl (cH rfl iL))))
 replace hb4:Bk w16 b2 51 [(bd (k<0)),vr8,(.slice (some ⟨b12,0,none⟩) (1) (1))]:=hn17
 refine aE ?_
 refine gH ?_
 refine⟨[(.agg #[(bd (k<0)),vr8,(.slice (some ⟨b12,0,none⟩) (1) (1))])],⟨⟨_,_,[(bd (k<0)),vr8,(.slice (some ⟨b12,0,none⟩) (1) (1))],rfl,⟨_,kK⟩,hb4.cells rfl,.inl ⟨oO,⟨_,_,jI⟩,rfl⟩⟩,trivial⟩,?_⟩
 replace hr9:=(hr9.tr (aH he13)).apn hx18 nb_hx18
 replace hb14:=hb14.exc hx18 (lJ lt_b2_b12)
 exact⟨⟨_,_,aBm (by rw[xT]),by rw[xT];exact hr9,by rw[Rat.den_intCast];exact hb14.sg (g:=gN .u32) (D:=(λb T=>w.heap.size<=b/\T=131)) (xs:=[1]) ⟨ge_b12,rfl⟩ rfl rfl dC,by rw[xT];omega,aI _⟩,hE⟩
theorem q_sign {w:World} {sx:Bool} {Dx Ex:Nat->TypeId->Prop} {vx ux:Value} {x dx:List Nat} (hx:Sg (gN .u32) Dx w vx x) (lmx:Lm x) (lnx:x.length<=17179869184) (hdx:Sg (gN .u32) Ex w ux dx) (lmdx:Lm dx) (lndx:dx.length<=17179869184) {qx:Rat} (ex:jH sx (val x) (val dx)=qx):
 Calls Tryz.prog 41 #[(.agg #[(.bool sx),vx,ux])] w λe w'=>∃v,e= .returned v/\v= .int .i64 (Int.sign qx.num)/\Ext w w':=by
 have hE:Below w.heap.size w w:=Below.refl _ _
 have hlqx:=aAi lmx lmdx ex
 have hdqx:=kJ qx
 refine eE (n:=12) (rs:=[.tmp 2]) func41 rfl rfl rfl bL ?_
 refine iU λF0 hF0=>?_
 refine wsr ?_
 refine rU (qT (cs:=[(.bool sx),vx,ux]) (hF0 0) rfl) ?_
 rintro _ w1 ⟨b2,rfl,hs5,hb4,he3⟩
 have ge_b2:=hE.ge hs5
 refine aS (v:=(iv 0)) rfl (aE (wsr ?_))
 have hc6:=hb4.cells (o:=0) (cs:=[(.bool sx),vx,ux]) rfl
 refine rV (fT (o:=0) (cs:=[(.bool sx),vx,ux]) kK oO jI rfl hc6) ?_
 replace hx:=hx.tr (aH he3)
 replace hdx:=hdx.tr (aH he3)
 refine RL.call rfl rfl dC (gI (vl:=[(.agg #[(.bool sx),vx,ux])]) aEb rfl) (uU hx (by assumption) oS hdx (by assumption) oS (show jH sx (val x) (val dx)=qx from ex)) ?_
 rintro _ w7 ⟨⟨sX,vnX,vdX,xnX,xdX,rfl,hnX,lmnX,lnnX,hdX,lmdX,lndX,nzX,eqX⟩,he8⟩
 replace hE:=(hE.nx he3).nx he8
 refine mV (v:=(.tuple #[(.agg #[(.bool sX),vnX]),vdX])) rfl (rV (bZ (v:=(.agg #[(.bool sX),vnX])) rfl rfl) (rV (bZ (v:=vdX) rfl rfl) ?_))
 refine rU (jA (cs:=[(.bool false),(.slice none 0 0)]) iB rfl) ?_
 rintro _ w9 ⟨b10,rfl,hs13,hb12,he11⟩
 replace hb4:=hb4.ext he8
 have lt_b2_b10:=cG hb4.lt hs13.symm
 have ge_b10:=hE.ge hs13
 refine fC rfl rfl (jK (cs:=[(.bool sX),vnX]) (o:=0) iB rfl rfl rfl rfl (bG rfl (bG hnX.one fJ)) hb12 bL) ?_
 rintro w14 ⟨hn15,hx16,hz17⟩
 have nb_hx16:=(Nb.of hb12 (cH rfl (cH rfl iL)))
 replace hb12:Bk w14 b10 49 [(.bool sX),vnX]:=hn15
 refine aS (v:=vdX) rfl (aE (wsr ?_))
 have hc18:=hb12.cells (o:=0) (cs:=[(.bool sX),vnX]) rfl
 refine rV (fT (o:=0) (cs:=[(.bool sX),vnX]) iK rG iB rfl hc18) ?_
 replace hnX:=(hnX.tr (aH he11)).apn hx16 nb_hx16
 refine RL.call rfl rfl dC (gI (vl:=[(.agg #[(.bool sX),vnX])]) aXf rfl) (aOu hnX lmnX oS rfl) ?_
 rintro _ w19 ⟨rfl,he20⟩
 replace hE:=((hE.nx he11).nb hx16 ge_b10).nx he20
 refine aS (v:=(iv (Int.sign (sg sX (val xnX))))) rfl (aE ?_)
 refine gH ?_
 refine⟨[(iv (Int.sign (sg sX (val xnX))))],⟨rfl,trivial⟩,?_⟩
 exact⟨cQ (aYf nzX eqX),hE⟩
theorem q_compare {w:World} {sx:Bool} {Dx Ex:Nat->TypeId->Prop} {vx ux:Value} {x dx:List Nat} (hx:Sg (gN .u32) Dx w vx x) (lmx:Lm x) (lnx:x.length<=17179869184) (hdx:Sg (gN .u32) Ex w ux dx) (lmdx:Lm dx) (lndx:dx.length<=17179869184) {qx:Rat} (ex:jH sx (val x) (val dx)=qx) {sy:Bool} {Dy Ey:Nat->TypeId->Prop} {vy uy:Value} {y dy:List Nat} (hy:Sg (gN .u32) Dy w vy y) (lmy:Lm y) (lny:y.length<=17179869184) (hdy:Sg (gN .u32) Ey w uy dy) (lmdy:Lm dy) (lndy:dy.length<=17179869184) {qy:Rat} (ey:jH sy (val y) (val dy)=qy):
 Calls Tryz.prog 145 #[(.agg #[(.bool sx),vx,ux]),(.agg #[(.bool sy),vy,uy])] w λe w'=>∃v,e= .returned v/\v= .int .i64 (cmpQ qx qy)/\Ext w w':=by
 have hE:Below w.heap.size w w:=Below.refl _ _
 have hlqx:=aAi lmx lmdx ex
 have hdqx:=kJ qx
 have hlqy:=aAi lmy lmdy ey
 have hdqy:=kJ qy
 refine eE (n:=69) (rs:=[.tmp 4]) func145 rfl rfl rfl bL ?_
 refine iU λF0 hF0=>?_
 refine wsr ?_
 refine rU (qT (cs:=[(.bool sx),vx,ux]) (hF0 0) rfl) ?_
 rintro _ w1 ⟨b2,rfl,hs5,hb4,he3⟩
 have ge_b2:=hE.ge hs5
 replace hE:=hE.nx he3
 refine rU (qT (cs:=[(.bool sy),vy,uy]) (hF0 1) rfl) ?_
 rintro _ w6 ⟨b7,rfl,hs10,hb9,he8⟩
 have lt_b2_b7:=cG hb4.lt hs10.symm
 have ge_b7:=hE.ge hs10
 refine aS (v:=(iv 0)) rfl (aE (dV (dV ?_)))
 refine oQ pJ λw11 he12=>?_
 replace hb4:=hb4.ext (aB he8 he12)
 have hc13:=hb4.cells (o:=0) (cs:=[(.bool sx),vx,ux]) rfl
 refine aR 0 rfl (λu hu=>fT (o:=0) (cs:=[(.bool sx),vx,ux]) kK oO jI rfl (λj v hj=>fH hu (hc13 j v hj))) ?_
 replace hb9:=hb9.ext he12
 have hc14:=hb9.cells (o:=0) (cs:=[(.bool sy),vy,uy]) rfl
 refine aR 2 rfl (λu hu=>fT (o:=0) (cs:=[(.bool sy),vy,uy]) kK oO jI rfl (λj v hj=>fH hu (hc14 j v hj))) ?_
 refine RA.all [1] kR rfl ?_
 have hm17:=aB he3 (aB he8 he12)
 replace hx:=hx.tr (aH hm17)
 replace hdx:=hdx.tr (aH hm17)
 refine RS.call rfl rfl rfl dC (gI (vl:=[(.agg #[(.bool sx),vx,ux])]) aSc rfl) (q_sign hx (by assumption) oS hdx (by assumption) oS (show jH sx (val x) (val dx)=qx from ex)) ?_ RS.nil
 rintro _ w15 ⟨rfl,he16⟩
 refine rm he16 ?_
 refine RA.all [3] kR rfl ?_
 have hm20:=aB hm17 he16
 replace hy:=hy.tr (aH hm20)
 replace hdy:=hdy.tr (aH hm20)
 refine RS.call rfl rfl rfl dC (gI (vl:=[(.agg #[(.bool sy),vy,uy])]) aSc rfl) (q_sign hy (by assumption) oS hdy (by assumption) oS (show jH sy (val y) (val dy)=qy from ey)) ?_ RS.nil
 rintro _ w18 ⟨rfl,he19⟩
 refine rm he19 ?_
 replace hE:=(((hE.nx he8).nx he12).nx he16).nx he19
 refine aA 4 rfl (v:=(iv (Int.sign qx.num))) rfl ?_
 refine aA 5 rfl (v:=(iv (Int.sign qy.num))) rfl ?_
 refine RA.done kR ?_
 refine wsr (mV (v:=(iv (Int.sign qx.num))) rfl (mV (v:=(iv (Int.sign qy.num))) rfl (rV (xO (k:=.i64) (a:=Int.sign qx.num) (b:=Int.sign qy.num) rfl rfl) (aE ?_))))
 refine wcD (p:=(Int.sign qx.num)≠(Int.sign qy.num)) rfl (λhb21 hb21p=>?_) (λhb21 hb21p=>?_)
 ·have hsn:=hb21p
  refine wsr (mV (v:=(iv (Int.sign qx.num))) rfl (mV (v:=(iv (Int.sign qy.num))) rfl ?_))
  refine cL bMn (bGu _) rfl ?_
  rintro _ _ ⟨rfl,rfl⟩
  refine aS (v:=(iv (cmpI (Int.sign qx.num) (Int.sign qy.num)))) rfl (aE ?_)
  refine gH ?_
  refine⟨[(iv (cmpI (Int.sign qx.num) (Int.sign qy.num)))],⟨rfl,trivial⟩,?_⟩
  exact⟨cQ (aVp hsn),hE⟩
 refine fL ?_
 refine wsr ?_
 replace hb4:=hb4.ext (aB he16 he19)
 have hc23:=hb4.cells (o:=0) (cs:=[(.bool sx),vx,ux]) rfl
 refine rV (fT (o:=0) (cs:=[(.bool sx),vx,ux]) kK oO jI rfl hc23) ?_
 replace hx:=hx.tr (aH (aB he16 he19))
 replace hdx:=hdx.tr (aH (aB he16 he19))
 refine RL.call rfl rfl dC (gI (vl:=[(.agg #[(.bool sx),vx,ux])]) aFx rfl) (xC hx (by assumption) oS hdx (by assumption) oS (show jH sx (val x) (val dx)=qx from ex)) ?_
 rintro _ w24 ⟨⟨nX,dX,okX,rfl,hsX⟩,he25⟩
 refine mV (v:=(.tuple #[(iv nX),(iv dX),(.bool okX)])) rfl (rV (bZ (v:=(iv nX)) rfl rfl) (rV (bZ (v:=(iv dX)) rfl rfl) (rV (bZ (v:=(.bool okX)) rfl rfl) (aS (v:=(iv nX)) rfl (aS (v:=(iv dX)) rfl (aS (v:=(.bool okX)) rfl (aE (wsr ?_))))))))
 have hm27:=aB he16 (aB he19 he25)
 replace hb9:=hb9.ext hm27
 have hc26:=hb9.cells (o:=0) (cs:=[(.bool sy),vy,uy]) rfl
 refine rV (fT (o:=0) (cs:=[(.bool sy),vy,uy]) kK oO jI rfl hc26) ?_
 replace hy:=hy.tr (aH (aB he19 he25))
 replace hdy:=hdy.tr (aH (aB he19 he25))
 refine RL.call rfl rfl dC (gI (vl:=[(.agg #[(.bool sy),vy,uy])]) aFx rfl) (xC hy (by assumption) oS hdy (by assumption) oS (show jH sy (val y) (val dy)=qy from ey)) ?_
 rintro _ w28 ⟨⟨nY,dY,okY,rfl,hsY⟩,he29⟩
 replace hE:=(hE.nx he25).nx he29
 refine mV (v:=(.tuple #[(iv nY),(iv dY),(.bool okY)])) rfl (rV (bZ (v:=(iv nY)) rfl rfl) (rV (bZ (v:=(iv dY)) rfl rfl) (rV (bZ (v:=(.bool okY)) rfl rfl) (aS (v:=(iv nY)) rfl (aS (v:=(iv dY)) rfl (aS (v:=(.bool okY)) rfl (aE (dV ?_))))))))
 refine iU λF30 hF31=>?_
 refine vN (λfl wl=>∃t:Bool,Off [39,40,41,42] F30 fl/\fl 42=(.bool t)/\(t=true->okX=true/\okY=true)/\(Sg (gN .u32) Dx wl vx x)/\(Sg (gN .u32) Dy wl vy y)/\(Sg (gN .u32) Ex wl ux dx)/\(Sg (gN .u32) Ey wl uy dy)/\(Below w.heap.size w wl)/\(Bk wl b2 51 [(.bool sx),vx,ux])/\(Bk wl b7 51 [(.bool sy),vy,uy])) ?_ ?_
 ·have G32:=Off.refl [39,40,41,42] F30
  refine cV (mV (v:=(.bool okX)) (hF31 9) (mV (v:=(.bool okX)) rfl ?_))
  rcases iJ (okX) with hb33|hb33
  ·have hb33p:=hb33
   have hokX:=hb33
   refine RL.gval rfl rfl (aW hb33) rfl dC (gS (v:=(.bool okY)) (hF31 12)) ?_
   refine rV (kT (v:=(.bool okY)) (aW hb33) rfl) (aE ?_)
   replace hx:=hx.tr (aH (aB he25 he29))
   replace hy:=hy.tr (aH he29)
   replace hdx:=hdx.tr (aH (aB he25 he29))
   replace hdy:=hdy.tr (aH he29)
   replace hb4:=hb4.ext (aB he25 he29)
   replace hb9:=hb9.ext he29
   refine⟨okY,?_,?_,?_,?_,?_,?_,?_,?_,?_,?_⟩
   ·exact(by repeat (first|exact G32|refine Off.st ?_ dC _))
   ·rfl
   ·exact λh=>⟨hokX,h⟩
   ·exact hx
   ·exact hy
   ·exact hdx
   ·exact hdy
   ·exact hE
   ·exact hb4
   exact hb9
  have hb33p:=hb33
  refine RL.gno rfl rfl (aW hb33) rfl dC ?_
  refine rV (mO (v:=(.bool false)) (aW hb33) rfl) (aE ?_)
  replace hx:=hx.tr (aH (aB he25 he29))
  replace hy:=hy.tr (aH he29)
  replace hdx:=hdx.tr (aH (aB he25 he29))
  replace hdy:=hdy.tr (aH he29)
  replace hb4:=hb4.ext (aB he25 he29)
  replace hb9:=hb9.ext he29
  refine⟨false,?_,?_,?_,?_,?_,?_,?_,?_,?_,?_⟩
  ·exact(by repeat (first|exact G32|refine Off.st ?_ dC _))
  ·rfl
  ·exact λh=>by cases h
  ·exact hx
  ·exact hy
  ·exact hdx
  ·exact hdy
  ·exact hE
  ·exact hb4
  exact hb9
 clear hx hy hdx hdy hE hb4 hb9
 rintro f34 w35 ⟨t,G36,hs37,ht,hx,hy,hdx,hdy,hE,hb4,hb9⟩
 refine uQ (b:=t) hs37 (λhb38=>?_) (λhb38=>?_)
 ·have hb38p:=hb38
  have hsx1:=hsX (ht hb38).1
  have hsy1:=hsY (ht hb38).2
  refine dV ?_
  have hm1:=xP (a:=nX) (b:=dY) ⟨by omega,by omega⟩ ⟨by omega,by omega⟩
  have hm2:=xP (a:=nY) (b:=dX) ⟨by omega,by omega⟩ ⟨by omega,by omega⟩
  have hm3:=xP (a:=dX) (b:=dY) ⟨by omega,by omega⟩ ⟨by omega,by omega⟩
  have hm4:=xP (a:=nX) (b:=nY) ⟨by omega,by omega⟩ ⟨by omega,by omega⟩
  have hmp:=vI hsx1.2.2.1 hsy1.2.2.1
  refine cV (mV (v:=(iv nX)) ((G36 7 rfl).trans (hF31 7)) (mV (v:=(iv dY)) ((G36 11 rfl).trans (hF31 11)) (rV (uR (k:=.i64) (a:=nX) (b:=dY) (c:=nX*dY) rfl rfl (jS oM)) (mV (v:=(iv nY)) ((G36 10 rfl).trans (hF31 10)) (mV (v:=(iv dX)) ((G36 8 rfl).trans (hF31 8)) (rV (uR (k:=.i64) (a:=nY) (b:=dX) (c:=nY*dX) rfl rfl (jS oM)) ?_))))))
  refine cL bMs (aVf _) rfl ?_
  rintro _ _ ⟨rfl,rfl⟩
  refine aS (v:=(iv (cmpI (nX*dY) (nY*dX)))) rfl (aE ?_)
  refine gH ?_
  refine⟨[(iv (cmpI (nX*dY) (nY*dX)))],⟨rfl,trivial⟩,?_⟩
  exact⟨cQ (aSk (aEu hsx1.2.2.1 hsy1.2.2.1 hsx1.2.2.2.2 hsy1.2.2.2.2) (aEu hsy1.2.2.1 hsx1.2.2.1 hsy1.2.2.2.2 hsx1.2.2.2.2)),hE⟩
 have hb38p:=hb38
 refine fL ?_
 refine wsr ?_
 have hc40:=hb4.cells (o:=0) (cs:=[(.bool sx),vx,ux]) rfl
 refine rV (fT (o:=0) (cs:=[(.bool sx),vx,ux]) kK oO jI ((G36 2 rfl).trans (hF31 2)) hc40) ?_
 refine RL.call rfl rfl dC (gI (vl:=[(.agg #[(.bool sx),vx,ux])]) aEb rfl) (uU hx (by assumption) oS hdx (by assumption) oS (show jH sx (val x) (val dx)=qx from ex)) ?_
 rintro _ w41 ⟨⟨sX,vnX,vdX,xnX,xdX,rfl,hnX,lmnX,lnnX,hdX,lmdX,lndX,nzX,eqX⟩,he42⟩
 replace hE:=hE.nx he42
 refine mV (v:=(.tuple #[(.agg #[(.bool sX),vnX]),vdX])) rfl (rV (bZ (v:=(.agg #[(.bool sX),vnX])) rfl rfl) (rV (bZ (v:=vdX) rfl rfl) ?_))
 refine rU (jA (cs:=[(.bool false),(.slice none 0 0)]) iB rfl) ?_
 rintro _ w43 ⟨b44,rfl,hs47,hb46,he45⟩
 replace hb9:=hb9.ext he42
 have lt_b7_b44:=cG hb9.lt hs47.symm
 have ge_b44:=hE.ge hs47
 refine fC rfl rfl (jK (cs:=[(.bool sX),vnX]) (o:=0) iB rfl rfl rfl rfl (bG rfl (bG hnX.one fJ)) hb46 bL) ?_
 rintro w48 ⟨hn49,hx50,hz51⟩
 have nb_hx50:=(Nb.of hb46 (cH rfl (cH rfl iL)))
 replace hb46:Bk w48 b44 49 [(.bool sX),vnX]:=hn49
 refine aS (v:=vdX) rfl (aE (wsr ?_))
 replace hb9:=(hb9.ext he45).exc hx50 (bR lt_b7_b44)
 have hc52:=hb9.cells (o:=0) (cs:=[(.bool sy),vy,uy]) rfl
 refine rV (fT (o:=0) (cs:=[(.bool sy),vy,uy]) kK oO jI ((G36 3 rfl).trans (hF31 3)) hc52) ?_
 replace hy:=(hy.tr (aH (aB he42 he45))).apn hx50 nb_hx50
 replace hdy:=(hdy.tr (aH (aB he42 he45))).apn hx50 nb_hx50
 refine RL.call rfl rfl dC (gI (vl:=[(.agg #[(.bool sy),vy,uy])]) aEb rfl) (uU hy (by assumption) oS hdy (by assumption) oS (show jH sy (val y) (val dy)=qy from ey)) ?_
 rintro _ w53 ⟨⟨sY,vnY,vdY,xnY,xdY,rfl,hnY,lmnY,lnnY,hdY,lmdY,lndY,nzY,eqY⟩,he54⟩
 replace hE:=((hE.nx he45).nb hx50 ge_b44).nx he54
 refine mV (v:=(.tuple #[(.agg #[(.bool sY),vnY]),vdY])) rfl (rV (bZ (v:=(.agg #[(.bool sY),vnY])) rfl rfl) (rV (bZ (v:=vdY) rfl rfl) ?_))
 refine rU (jA (cs:=[(.bool false),(.slice none 0 0)]) iB rfl) ?_
 rintro _ w55 ⟨b56,rfl,hs59,hb58,he57⟩
 replace hb46:=hb46.ext he54
 have lt_b44_b56:=cG hb46.lt hs59.symm
 have ge_b56:=hE.ge hs59
 refine fC rfl rfl (jK (cs:=[(.bool sY),vnY]) (o:=0) iB rfl rfl rfl rfl (bG rfl (bG hnY.one fJ)) hb58 bL) ?_
 rintro w60 ⟨hn61,hx62,hz63⟩
 have nb_hx62:=(Nb.of hb58 (cH rfl (cH rfl iL)))
 replace hb58:Bk w60 b56 49 [(.bool sY),vnY]:=hn61
 refine aS (v:=vdY) rfl (aE (dV ?_))
 refine oQ pJ λw64 he65=>?_
 replace hE:=((hE.nx he57).nb hx62 ge_b56).nx he65
 replace hb46:=((hb46.ext he57).exc hx62 (bR lt_b44_b56)).ext he65
 have hc66:=hb46.cells (o:=0) (cs:=[(.bool sX),vnX]) rfl
 refine aR 0 rfl (λu hu=>fT (o:=0) (cs:=[(.bool sX),vnX]) iK rG iB rfl (λj v hj=>fH hu (hc66 j v hj))) ?_
 refine aM 1 rfl (v:=vdY) rfl ?_
 refine ra 2 rfl (λ_=>mQ (vl:=[(1,vdY)]) (cs:=[(.bool false),vdY]) iK iB rfl (aMk iK) (by obtain⟨_,_,e0_,-,-⟩:=hdY.len;simp only[e0_];rfl)) ?_
 replace hb58:=hb58.ext he65
 have hc67:=hb58.cells (o:=0) (cs:=[(.bool sY),vnY]) rfl
 refine aR 4 rfl (λu hu=>fT (o:=0) (cs:=[(.bool sY),vnY]) iK rG iB rfl (λj v hj=>fH hu (hc67 j v hj))) ?_
 refine aM 5 rfl (v:=vdX) rfl ?_
 refine ra 6 rfl (λ_=>mQ (vl:=[(1,vdX)]) (cs:=[(.bool false),vdX]) iK iB rfl (aMk iK) (by obtain⟨_,_,e0_,-,-⟩:=hdX.len;simp only[e0_];rfl)) ?_
 refine RA.all [3] kR rfl ?_
 replace hnX:=((((hnX.tr (aH he45)).apn hx50 nb_hx50).tr (aH (aB he54 he57))).apn hx62 nb_hx62).tr (aH he65)
 replace hdY:=((hdY.tr (aH he57)).apn hx62 nb_hx62).tr (aH he65)
 refine RS.call rfl rfl rfl dC (gI (vl:=[(.agg #[(.bool sX),vnX]),(.agg #[(.bool false),vdY])]) aEc rfl) (aEe hnX lmnX oS rfl hdY lmdY oS rfl) ?_ RS.nil
 rintro _ w68 ⟨⟨vr70,rfl,hr71,hl72⟩,he69⟩
 refine rm he69 ?_
 replace hr71:=hr71.fr hE
 replace hE:=hE.nx he69
 refine RA.all [7] kR rfl ?_
 replace hnY:=((hnY.tr (aH he57)).apn hx62 nb_hx62).tr (aH (aB he65 he69))
 replace hdX:=((((hdX.tr (aH he45)).apn hx50 nb_hx50).tr (aH (aB he54 he57))).apn hx62 nb_hx62).tr (aH (aB he65 he69))
 refine RS.call rfl rfl rfl dC (gI (vl:=[(.agg #[(.bool sY),vnY]),(.agg #[(.bool false),vdX])]) aEc rfl) (aEe hnY lmnY oS rfl hdX lmdX oS rfl) ?_ RS.nil
 rintro _ w73 ⟨⟨vr75,rfl,hr76,hl77⟩,he74⟩
 refine rm he74 ?_
 replace hr76:=hr76.fr hE
 refine RA.all [8] kR rfl ?_
 replace hr71:=hr71.tr (aH he74)
 refine RS.call rfl rfl rfl dC (gI (vl:=[(.agg #[(bd (((sg sX (val xnX))*(sg false (val xdY)))<0)),vr70]),(.agg #[(bd (((sg sY (val xnY))*(sg false (val xdX)))<0)),vr75])]) bMt rfl) (aVo hr71 (cT _) oS (cK _) hr76 (cT _) oS (cK _)) ?_ RS.nil
 rintro _ w78 ⟨rfl,he79⟩
 refine rm he79 ?_
 replace hE:=(hE.nx he74).nx he79
 refine aA 9 rfl (v:=(iv (cmpI ((sg sX (val xnX))*(sg false (val xdY))) ((sg sY (val xnY))*(sg false (val xdX)))))) rfl ?_
 refine RA.done kR ?_
 refine gH ?_
 refine⟨[(iv (cmpI ((sg sX (val xnX))*(sg false (val xdY))) ((sg sY (val xnY))*(sg false (val xdX)))))],⟨rfl,trivial⟩,?_⟩
 have p1:(0:Int)<sg false (val xdX):=by rw[sg_f];omega
 have p2:(0:Int)<sg false (val xdY):=by rw[sg_f];omega
 exact⟨cQ (aSk (aEu p1 p2 eqX eqY) (aEu p2 p1 eqY eqX)),hE⟩
end Go.Proofs.YtlhdigjbokkbiaaGreat.W
