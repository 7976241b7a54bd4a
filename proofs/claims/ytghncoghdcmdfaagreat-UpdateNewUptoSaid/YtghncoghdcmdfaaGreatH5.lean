/- the law UpdateNew and what it stands on Part 5 of 6: Sc Sd Sx Se Pj Sf Sg Sh Si Sj Sk Sl Sm Sn So Sp Sq Kb Rm Kc Kd Sr. -/
import Derived.Shelf.Small.Bits
import Derived.Test.YtghncoghdcmdfaaGreatH4
set_option maxHeartbeats 4000000
set_option linter.unusedVariables false
set_option linter.unusedSimpArgs false
namespace Go.Proofs.YtghncoghdcmdfaaGreat
open Go.Vg _root_.Go.Proofs.Tryz
open Go.Vm
open Go.Vy hiding val
set_option maxRecDepth 20000
theorem bVz {P:Program} {nb N:Nat} {c:Code} {K:Kt} {s:SS} (id:Nat) {σ:Type} (S:σ->SS) (C:σ->Prop) (h:Sd P nb N c ⟨K.nrm,λj s'=>bif Nat.beq j id then Gt nb s' S C else K.ext j s',K.ret⟩ s) (hr:∀g,C g->K.ext id (S g)):Sd P nb N c K s:=λρ0 w0 ρ f w Q hL hD=>by
 refine h ρ0 w0 ρ f w Q ⟨hL.nrm,λj s' ρ' f' w' hh hD'=>?_,hL.ret⟩ hD
 cases hb:Nat.beq j id with
 |false=>simp only[hb,cond_false] at hh;exact hL.ext j s' ρ' f' w' hh hD'
 |true=>
  simp only[hb,cond_true] at hh
  obtain⟨g,ρ2,h1,h2⟩:=hh ρ0 w0 ρ' f' w' hD'
  have e:=aD hb
  subst e
  exact hL.ext j _ ρ2 f' w' (hr g h1) h2
theorem aYp {A:List Int} {k:Nat} (h:k<A.length):(A.map iC)[k*1]? =some (iC (A.getD k 0)):=by rw[bZ,dS,aE h,gd h];rfl
theorem aYq {A:List Int} {k:Nat} (h:k<A.length):k*1<(A.map iC).length:=by simpa using h
theorem xM {n c b:Nat} {CA:Nat->Option Nat} (hc:c<n) (hb:CA c=some b):(dX n (mpC CA))[c*1]? =some (.v (.map (some b))):=by rw[eH hc];exact congrArg (λo=>some (CV.v (.map o))) hb
abbrev cnB (n a:Nat) (x:El) (A:List Int):BL:=[(155,0,[.p 1 0]),elE 2 3 4 5 n a,elR n x,elL n x,elC n x,elA A]
theorem bOg {n a:Nat} {x:El} {A:List Int}:scB 6 (cnB n a x A):=aB rfl (aB rfl (aB (cI (aR λ_ _=>rfl)) (aB (cI (aR λ_ _=>rfl)) (aB (cI (aR λ_ _=>rfl)) (aB (cI (eI _)) bJ)))))
abbrev cnL:List Bool:=[false,false,true,true,true,true]
theorem aYr {n a:Nat} {x:El} {A:List Int}:ClB cnL (cnB n a x A):=eZ (λh=>by cases h) (eZ (λh=>by cases h) (eZ (λ_=>aR λ_ _=>rfl) (eZ (λ_=>aR λ_ _=>rfl) (eZ (λ_=>aR λ_ _=>rfl) (eZ (λ_=>eI _) wW)))))
abbrev zT:FuncId:=177
theorem bEy:Ent Tryz.prog zT:=aV func177 rfl kR
theorem bEz:Tryz.prog.funcs[zT]? =some Tryz.f177:=func177
theorem zU (x:El) {n c b k:Nat} {A:List Int} (hk:k<A.length) (hA:A.getD k 0=(c:Nat)) (hc:c<n) (hb:x.CA c=some b):CtrF Tryz.prog zT cnL [.c (iC k),.c (.p 0 0)] (cnB n A.length x A) [CF n x] (λ_:Unit=>⟨.c (iC (x.I c).length),cnB n A.length x A,[CF n x],True⟩):=by
 refine gN gT bEy bEz rfl rfl rfl bL aYr (aA gT mxd ?_)
 refine⟨.seq (sq 99 (List.range 15)),by kernel_rfl,k,⟨rfl,hk,aYq hk⟩,_,aYp hk,c,⟨hA,hc,dG hc⟩,_,xM hc hb,0,c,⟨hc,hb⟩,(),trivial,fC rfl ⟨rfl,rfl,rfl,rfl,rfl,rfl⟩ ⟨rfl,trivial⟩ bL bOg rfl aYr⟩
abbrev chB (n a:Nat) (x:El) (A:List Int):BL:=[elE 1 2 3 4 n a,elR n x,elL n x,elC n x,elA A]
abbrev zB (n a:Nat) (x:El) (A:List Int):BL:=[elE 1 2 3 4 n a,elR n x,elL n x,elC n x,elA A,(155,0,[.p 0 0])]
abbrev chL:List Bool:=[false,true,true,true,true]
theorem aBr {n a:Nat} {x:El} {A:List Int}:ClB chL (chB n a x A):=eZ (λh=>by cases h) (eZ (λ_=>aR λ_ _=>rfl) (eZ (λ_=>aR λ_ _=>rfl) (eZ (λ_=>aR λ_ _=>rfl) (eZ (λ_=>eI _) wW))))
theorem aLv {n a:Nat} {x:El} {A:List Int}:scB 5 (chB n a x A):=aB rfl (aB (cI (aR λ_ _=>rfl)) (aB (cI (aR λ_ _=>rfl)) (aB (cI (aR λ_ _=>rfl)) (aB (cI (eI _)) bJ))))
theorem sU {n a:Nat} {x:El} {A:List Int}:scB 6 (zB n a x A):=aB rfl (aB (cI (aR λ_ _=>rfl)) (aB (cI (aR λ_ _=>rfl)) (aB (cI (aR λ_ _=>rfl)) (aB (cI (eI _)) (aB rfl bJ)))))
abbrev xN:FuncId:=114
theorem aYs:Ent Tryz.prog xN:=aV func114 rfl kR
theorem aYt:Tryz.prog.funcs[xN]? =some Tryz.f114:=func114
abbrev aLw (best:Nat):List (Nat×DV):=[(5,.c (iC best)),(6,.c (.f zT [] [(5,0)])),(1,.c (.p 5 0))]
abbrev bFa (r0:Nat) (c:Nat) (ro:Int):List (Nat×DV):=[(2,.c (iC ro)),(66,.c (.hp r0 0)),(1,.c (.p 5 0)),(3,.c (iC c))]
abbrev itF (r0:Nat) (G:Nat->List CV):Fam:=⟨1000001,1,1,λ_=>some r0,λ_=>0,G⟩
def bWa:Ord:=.treeX [] [0,1,2002,2003,4,2005,2006,7,2008,2009,10,2011,2012,2013] (trS [14,2015,2016,1017])
theorem bOh {A:List Int} {p:Nat} (h:p<A.length):(A.map iC).take (p*1)++(A.map iC).drop ((p+1)*1)=(A.eraseIdx p).map iC:=by
 rw[bZ,bZ,nN,cJ,rJ,oB]
def chR (n:Nat) (x:El) (A:List Int):Option (Nat×Nat×Nat)->OutF
 |none=>⟨.t [.c (iC 0),.c (iC 0),.c (.v (.bool false))],chB n A.length x A,[CF n x],∃c:Nat,c<n/\(c:Int)∈A/\x.I c=[]⟩
 |some (r,c,p)=>⟨.t [.c (iC r),.c (iC c),.c (.v (.bool true))],chB n (A.length-1) x (A.eraseIdx p),[CF n x],(p<A.length/\A.getD p 0=(c:Nat))/\c<n/\r∈iY (x.I c)⟩
theorem aYu (x:El) {n:Nat} {A:List Int} {es lw:Nat->List En} {used:Nat->Prop} (h:ElOk x n es lw used) (h0:0<A.length) (hl:A.length<=4096) (hA:∀a∈A,0<=a/\a<(n:Nat)):CtrF Tryz.prog xN chL [.c (.p 0 0)] (chB n A.length x A) [CF n x] (chR n x A):=by
 have hin:∀k,k<A.length->∃c,A.getD k 0=(c:Nat)/\c<n/\∃b,x.CA c=some b:=λk hk=>by
  have hm:A.getD k 0∈A:=by rw[gd hk];exact iH hk
  have h2:=hA _ hm
  obtain⟨c,hc⟩:∃c:Nat,A.getD k 0=(c:Nat):=⟨(A.getD k 0).toNat,by omega⟩
  have hcn:c<n:=by omega
  exact⟨c,hc,hcn,h.ca c hcn⟩
 refine gN gT aYs aYt rfl rfl rfl bL aBr (aA gT mxd ?_)
 show Sd _ _ _ _ _ _
 refine bVz 0 (σ:=Nat) (λbest=>⟨aLw best++[],[],zB n A.length x A,[CF n x]⟩) (λbest=>best<A.length) ?_ (λbest hb=>?_)
 ·refine dR (λ_=>true) (λg:Nat×Nat=>(15,.c (iC g.1))::(14,.c (iC (A.length:Nat)))::aLw g.2) (λ_=>zB n A.length x A) (λ_=>[CF n x]) (λg=>g.1<=A.length/\g.2<A.length) (λg=>A.length-g.1) λhM=>⟨cH hM (chg:=λg:Nat×Nat=>(15,.c (iC g.1))::(14,.c (iC (A.length:Nat)))::aLw g.2) (bls:=λ_=>zB n A.length x A) (fls:=λ_=>[CF n x]) (0,0) ⟨aC _,h0⟩ rfl ⟨rfl,rfl,rfl,rfl,rfl,rfl⟩ ⟨rfl,trivial⟩ ⟨rfl,rfl,rfl,rfl,rfl⟩ bL sU rfl,λ⟨k,best⟩ ⟨hk,hb⟩=>aA gT mxd ⟨λh2=>aA gT mxd ?_,λh2=>aA gT mxd ?_⟩⟩
  all_goals
   replace hk:k<=A.length:=hk
   replace hb:best<A.length:=hb
  ·have hkl:k<A.length:=by replace h2:(k:Int)<(A.length:Nat):=h2;omega
   obtain⟨c,c1,c2,b,c3⟩:=hin k hkl
   obtain⟨d,d1,d2,e,d3⟩:=hin best hb
   refine⟨_,rfl,[5,0,1,2,3,4,1000],zU x hkl c1 c2 c3,rfl,rfl,rfl,λ_ _=>⟨_,rfl,[5,0,1,2,3,4,1000],zU x hb d1 d2 d3,rfl,rfl,rfl,λ_ _=>?_⟩⟩
   refine vjn (λ_=>true) (λb':Nat=>(15,.c (iC k))::(14,.c (iC (A.length:Nat)))::aLw b') (λ_=>zB n A.length x A) (λb'=>b'<A.length) ?_
   refine⟨⟨λh3=>aA gT mxd ⟨k,hkl,rfl,rfl,rfl,rfl,rfl,rfl,rfl⟩,λh3=>aA gT mxd ⟨best,hb,rfl,rfl,rfl,rfl,rfl,rfl,rfl⟩⟩,λb' hb'=>?_⟩
   obtain⟨f,f1,f2,g,f3⟩:=hin b' hb'
   refine⟨_,rfl,[5,0,1,2,3,4,1000],zU x hb' f1 f2 f3,rfl,rfl,rfl,λ_ _=>⟨λh4=>aA gT mxd ?_,λh4=>aA gT mxd ⟨(k+1:Nat),wi,?_⟩⟩⟩
   ·show Gt _ _ _ _
    exact cH (M:=λ_=>true) (base:=[]) (λt d ht=>by cases ht) (chg:=aLw) (bls:=λ_=>zB n A.length x A) (fls:=λ_=>[CF n x]) b' hb' rfl ⟨rfl,rfl,rfl,rfl,rfl,rfl⟩ ⟨rfl,trivial⟩ ⟨rfl,rfl,rfl⟩ bL sU rfl
   exact cH hM (chg:=λg:Nat×Nat=>(15,.c (iC g.1))::(14,.c (iC (A.length:Nat)))::aLw g.2) (bls:=λ_=>zB n A.length x A) (fls:=λ_=>[CF n x]) (k+1,b') ⟨⟨hkl,hb'⟩,show A.length-(k+1)<A.length-k by omega⟩ rfl ⟨rfl,rfl,rfl,rfl,rfl,rfl⟩ ⟨rfl,trivial⟩ ⟨rfl,rfl,rfl,rfl,rfl⟩ bL sU rfl
  show Gt _ _ _ _
  exact cH (M:=λ_=>true) (base:=[]) (λt d ht=>by cases ht) (chg:=aLw) (bls:=λ_=>zB n A.length x A) (fls:=λ_=>[CF n x]) best hb rfl ⟨rfl,rfl,rfl,rfl,rfl,rfl⟩ ⟨rfl,trivial⟩ ⟨rfl,rfl,rfl⟩ bL sU rfl
 replace hb:best<A.length:=hb
 obtain⟨c,c1,c2,b,c3⟩:=hin best hb
 refine aA gT mxd ⟨_,rfl,[5,0,1,2,3,4,1000],zU x hb c1 c2 c3,rfl,rfl,rfl,λ_ _=>⟨λh5=>aA gT mxd ⟨none,⟨c,c2,by rw[<-c1,gd hb];exact iH hb,List.length_eq_zero_iff.1 (by replace h5:((x.I c).length:Int)=0:=h5;omega)⟩,fC ⟨rfl,rfl,rfl⟩ ⟨rfl,rfl,rfl,rfl,rfl⟩ ⟨rfl,trivial⟩ bL aLv rfl aBr⟩,λh5=>aA gT mxd ?_⟩⟩
 replace h5:¬((x.I c).length:Int)=0:=h5
 have w1:best*1<=(A.map iC).length:=by rw[aU];omega
 have w2:A.length*1<=(A.map iC).length:=by rw[aU];omega
 have w3:(best+1)*1+(A.length-(best+1))*1=(A.map iC).length:=by rw[aU];omega
 have w4:best*1+(A.length-(best+1))*1<=(A.map iC).length:=by rw[aU];omega
 have w5:0<(A.map iC).length:=by rw[aU];omega
 refine⟨best,⟨rfl,hb,aYq hb⟩,_,(aYp hb).trans (congrArg (λz=>some (iC z)) c1),?_⟩
 refine⟨bWa,by kernel_rfl,best,⟨rfl,w1⟩,(best+1:Nat),wi,best+1,⟨rfl,hb,w2⟩,?_⟩
 refine⟨⟨w3,w4,w5⟩,rfl,?_⟩
 refine⟨c,⟨rfl,c2,dG c2⟩,_,xM c2 c3,0,c,⟨c2,c3⟩,λr0=>?_⟩
 show Sd _ _ _ _ _ _
 have hne:x.I c≠[]:=λhe=>h5 (by rw[he];rfl)
 have ha1:best+(A.length-(best+1))=A.length-1:=by omega
 have kin:∀k∈x.I c,lT k<n:=λk hk=>((h.mem c c2 (lT k)).1 (bT.2 ⟨k,hk,rfl⟩)).1.1
 refine dR (λ_=>true) (λg:Int×(Nat->List CV)×Nat×(Nat->List CV)=>bFa r0 c g.1) (λ_=>zB n (A.length-1) x (A.eraseIdx best)) (λg=>[CF n x,itF r0 g.2.2.2]) (λg=>(g.2.1 1=x.I c/\g.2.2.1<=x.Cc c/\g.2.2.2 0=[.r none 0 b g.2.2.1 g.2.1]/\∀k∈g.2.1 0,k∈x.I c)/\(0<=g.1->∃r:Nat,g.1=(r:Nat)/\r∈iY (x.I c))/\(0<=g.1\/g.2.1 0=x.I c)) (λg=>(g.2.1 0).length) λhM2=>⟨cH hM2 (chg:=λg:Int×(Nat->List CV)×Nat×(Nat->List CV)=>bFa r0 c g.1) (bls:=λ_=>zB n (A.length-1) x (A.eraseIdx best)) (fls:=λg=>[CF n x,itF r0 g.2.2.2]) (-1,aJr (x.I c),x.Cc c,λ_=>[.r none 0 b (x.Cc c) (aJr (x.I c))]) ⟨⟨rfl,aF _,rfl,λk hk=>hk⟩,λhh=>absurd (show(0:Int)<=-1 from hh) dC,.inr rfl⟩ rfl ⟨congrArg (λk=>elE 1 2 3 4 n k) ha1,rfl,rfl,rfl,congrArg (λl:List CV=>((3,1,l):TypeId×Nat×List CV)) (bOh hb),rfl⟩ ⟨rfl,rfl,trivial⟩ ⟨rfl,rfl,rfl,rfl⟩ bL sU rfl,λ⟨ro,gg,st,G⟩ ⟨⟨i1,i2,iG,i3⟩,hro,hex⟩=>aA gT mxd ⟨1,0,c,b,st,gg,⟨bL,rfl,iG,c2,c3,i1,i2⟩,λh6=>?_,λp k q h6=>?_⟩⟩
 all_goals
  replace i1:gg 1=x.I c:=i1
  replace i2:st<=x.Cc c:=i2
  replace iG:G 0=[.r none 0 b st gg]:=iG
  replace i3:∀k∈gg 0,k∈x.I c:=i3
  replace hro:0<=ro->∃r:Nat,ro=(r:Nat)/\r∈iY (x.I c):=hro
  replace hex:0<=ro\/gg 0=x.I c:=hex
 ·have h7:0<=ro:=hex.resolve_right λhe=>hne (he.symm.trans h6)
  obtain⟨r,rfl,hr⟩:=hro h7
  exact aA gT mxd ⟨some (r,c,best),⟨⟨hb,c1⟩,c2,hr⟩,fC ⟨rfl,rfl,rfl⟩ ⟨rfl,rfl,rfl,rfl,rfl⟩ ⟨rfl,trivial⟩ bL aLv rfl aBr⟩
 have hk:k∈x.I c:=i3 k (by rw[h6];exact cX _ (.head _))
 have hkn:=kin k hk
 have hmea:(p++q).length<(gg 0).length:=by rw[h6];simp
 have hsub:∀k'∈p++q,k'∈x.I c:=λk' hk'=>i3 k' (by
  rw[h6]
  rcases aQ.1 hk' with hh|hh
  ·exact cP _ hh
  exact cX _ (.tail _ hh))
 have hrr:¬ro<0->ro=(ro.toNat:Nat)/\ro.toNat<n:=λhn=>by
  obtain⟨r,rfl,hr⟩:=hro oM
  refine⟨rfl,?_⟩
  obtain⟨k',hk',rfl⟩:=bT.1 hr
  exact kin k' hk'
 have hG':upd G 0 [CV.r none 0 b (x.Cc c) (wR p q (x.I c) k)] 0=[CV.r none 0 b (x.Cc c) (wR p q (x.I c) k)]:=bP
 refine⟨1,0,c,b,k,wR p q (x.I c) k,⟨bL,rfl,hG',c2,c3,rfl,hk⟩,?_⟩
 refine⟨.seq (sq 99 (List.range 45)),by kernel_rfl,lT k,λ_=>⟨rfl,hkn,dG hkn⟩,_,λ_=>eH hkn,ro.toNat,λhq=>⟨(hrr hq).1,(hrr hq).2,dG (hrr hq).2⟩,bR (x.R ro.toNat),λhq=>eH (hrr hq).2,lT k,λ_=>⟨rfl,hkn,dG hkn⟩,_,λ_=>eH hkn,ro.toNat,λhq=>⟨(hrr λhn=>hq (.inl hn)).1,(hrr λhn=>hq (.inl hn)).2,dG (hrr λhn=>hq (.inl hn)).2⟩,bR (x.R ro.toNat),λhq=>eH (hrr λhn=>hq (.inl hn)).2,?_⟩
 refine⟨λh8=>aA gT mxd ?_,λh8=>aA gT mxd ?_⟩
 ·exact cH hM2 (chg:=λg:Int×(Nat->List CV)×Nat×(Nat->List CV)=>bFa r0 c g.1) (bls:=λ_=>zB n (A.length-1) x (A.eraseIdx best)) (fls:=λg=>[CF n x,itF r0 g.2.2.2]) ((lT k:Nat),wR p q (x.I c) k,x.Cc c,upd G 0 [.r none 0 b (x.Cc c) (wR p q (x.I c) k)]) ⟨⟨⟨rfl,aF _,hG',hsub⟩,λ_=>⟨lT k,rfl,bT.2 ⟨k,hk,rfl⟩⟩,.inl (Int.natCast_nonneg _)⟩,hmea⟩ rfl ⟨rfl,rfl,rfl,rfl,rfl,rfl⟩ ⟨rfl,rfl,trivial⟩ ⟨rfl,rfl,rfl,rfl⟩ bL sU rfl
 have h9:0<=ro:=sX.1 λhn=>h8 (.inl (.inl hn))
 exact cH hM2 (chg:=λg:Int×(Nat->List CV)×Nat×(Nat->List CV)=>bFa r0 c g.1) (bls:=λ_=>zB n (A.length-1) x (A.eraseIdx best)) (fls:=λg=>[CF n x,itF r0 g.2.2.2]) (ro,wR p q (x.I c) k,x.Cc c,upd G 0 [.r none 0 b (x.Cc c) (wR p q (x.I c) k)]) ⟨⟨⟨rfl,aF _,hG',hsub⟩,hro,.inl h9⟩,hmea⟩ rfl ⟨rfl,rfl,rfl,rfl,rfl,rfl⟩ ⟨rfl,rfl,trivial⟩ ⟨rfl,rfl,rfl,rfl⟩ bL sU rfl
abbrev El.maps (x:El) (I:Nat->List CV):El:=⟨x.R,x.LA,x.Lc,x.L,x.CA,x.Cc,I⟩
def DI (ps:List En) (n i k:Nat) (I0 I:Nat->List CV):Prop:=∀j,j<n->((iY (I0 j)).Nodup->(iY (I j)).Nodup)/\∀r,r∈iY (I j)↔r∈iY (I0 j)/\¬(r=i/\∃e∈ps.take k,e.1=(j:Nat))
theorem yI {α:Type} [Inhabited α] {l:List α} {k:Nat} (h:k<l.length):l.take (k+1)=l.take k++[l.getD k default]:=by rw[cS,aE h,gd h];rfl
theorem bFb {ps:List En} {k:Nat} {j j0:Nat} (hk:k<ps.length) (hj:(ps.getD k default).1=(j0:Nat)):(∃e∈ps.take (k+1),e.1=(j:Nat))↔(∃e∈ps.take k,e.1=(j:Nat))\/j=j0:=by
 rw[yI hk]
 constructor
 ·rintro⟨e,he,h⟩
  rcases aQ.1 he with he|he
  ·exact .inl ⟨e,he,h⟩
  rw[aI.1 he,hj] at h;exact .inr (kI h).symm
 rintro(⟨e,he,h⟩|rfl)
 ·exact⟨e,cP _ he,h⟩
 exact⟨_,cX _ (.head _),hj⟩
theorem DI.start {ps:List En} {n i:Nat} {I:Nat->List CV}:DI ps n i 0 I I:=λj _=>⟨id,λr=>⟨λh=>⟨h,λ⟨_,e,he,_⟩=>by cases he⟩,λh=>h.1⟩⟩
theorem DI.next {ps:List En} {n i k j0:Nat} {I0 I:Nat->List CV} (h:DI ps n i k I0 I) (hk:k<ps.length) (hj:(ps.getD k default).1=(j0:Nat)):DI ps n i (k+1) I0 (upd I j0 (yY (I j0) i)):=λj hjn=>by
 obtain⟨h1,h2⟩:=h j hjn
 by_cases e:j=j0
 ·subst e
  rw[bP]
  refine⟨λhn=>bOd (h1 hn),λr=>?_⟩
  rw[bEt,h2 r,bFb hk hj]
  constructor
  ·rintro⟨⟨h3,h4⟩,h5⟩;exact⟨h3,λ⟨h6,_⟩=>h5 h6⟩
  rintro⟨h3,h4⟩;exact⟨⟨h3,λ⟨h5,h6⟩=>h4 ⟨h5,.inl h6⟩⟩,λh5=>h4 ⟨h5,.inr rfl⟩⟩
 rw[bK e]
 refine⟨h1,λr=>?_⟩
 rw[h2 r,bFb hk hj]
 exact and_congr_right λ_=>not_congr (and_congr_right λ_=>⟨.inl,λh=>h.elim id λh=>absurd h e⟩)
abbrev lvB (n a:Nat) (x:El) (A:List Int) (pv:Sl EntM):BL:=[(65,0,[bR pv]),(155,0,[.p 2 0]),elE 3 4 5 6 n a,elR n x,elL n x,elC n x,elA A]
theorem aLx {n a:Nat} {x:El} {A:List Int} {pv:Sl EntM}:scB 7 (lvB n a x A pv):=aB rfl (aB rfl (aB rfl (aB (cI (aR λ_ _=>rfl)) (aB (cI (aR λ_ _=>rfl)) (aB (cI (aR λ_ _=>rfl)) (aB (cI (eI _)) bJ))))))
abbrev lvL:List Bool:=[true,false,false,true,true,true,true]
theorem aYv {n a:Nat} {x:El} {A:List Int} {pv:Sl EntM}:ClB lvL (lvB n a x A pv):=eZ (λ_ c hc=>by rw[aI.1 hc];rfl) (eZ (λh=>by cases h) (eZ (λh=>by cases h) (eZ (λ_=>aR λ_ _=>rfl) (eZ (λ_=>aR λ_ _=>rfl) (eZ (λ_=>aR λ_ _=>rfl) (eZ (λ_=>eI _) wW))))))
abbrev xO:FuncId:=178
theorem bFc:Ent Tryz.prog xO:=aV func178 rfl kR
theorem bFd:Tryz.prog.funcs[xO]? =some Tryz.f178:=func178
abbrev lvG (pv:Sl EntM) (i k:Nat):List (Nat×DV):=[(8,.c (iC k)),(6,.c (bR pv)),(7,.c (iC (pv.l.length:Nat))),(0,.c (iC i)),(2,.c (.p 1 0))]
def oLv:Ord:=.treeX [] [0,2001,2002,3,2004,5,2006,1007,2008] (trS [1009])
theorem aPe (x:El) (pv:Sl EntM) {ps:List En} {n i:Nat} {A:List Int} (hp:Ek pv.l ps) (hv:VOk ps (n:Nat)) (hl:ps.length<=n) (hn:n<=4096) (ca:∀j,j<n->∃b,x.CA j=some b):CtrF Tryz.prog xO lvL [.c (iC i),.c (.p 0 0),.c (.p 1 0)] (lvB n A.length x A pv) [CF n x] (λI:Nat->List CV=>⟨.t [],lvB n A.length x A pv,[CF n (x.maps I)],DI ps n i ps.length x.I I⟩):=by
 have hln:=hp.ln
 refine gN gT bFc bFd rfl rfl rfl bL aYv (aA gT mxd ?_)
 show Sd _ _ _ _ _ _
 refine dR (λ_=>true) (λg:Nat×(Nat->List CV)=>lvG pv i g.1) (λ_=>lvB n A.length x A pv) (λg=>[CF n (x.maps g.2)]) (λg=>g.1<=ps.length/\DI ps n i g.1 x.I g.2) (λg=>ps.length-g.1) λhM=>⟨cH hM (chg:=λg:Nat×(Nat->List CV)=>lvG pv i g.1) (bls:=λ_=>lvB n A.length x A pv) (fls:=λg=>[CF n (x.maps g.2)]) (0,x.I) ⟨aC _,DI.start⟩ rfl ⟨rfl,rfl,rfl,rfl,rfl,rfl,rfl⟩ ⟨rfl,trivial⟩ ⟨rfl,rfl,rfl,rfl,rfl⟩ bL aLx rfl,λ⟨k,I⟩ ⟨hk,hI⟩=>aA gT mxd ⟨λh2=>aA gT mxd ?_,λh2=>aA gT mxd ?_⟩⟩
 all_goals
  replace hk:k<=ps.length:=hk
  replace hI:DI ps n i k x.I I:=hI
 ·have hkl:k<ps.length:=by replace h2:(k:Int)<(pv.l.length:Nat):=h2;omega
  have he:=hp.e k hkl
  have e0:=hv.2 _ (gW hkl)
  obtain⟨j0,hj0⟩:∃j0:Nat,(ps.getD k default).1=(j0:Nat):=⟨(ps.getD k default).1.toNat,by omega⟩
  have hjn:j0<n:=by omega
  have hix:(pv.l.getD k default).ix=(j0:Nat):=he.1.trans hj0
  obtain⟨b,hb⟩:=ca j0 hjn
  refine⟨k,⟨rfl,show k<pv.l.length by omega⟩,oLv,by kernel_rfl,j0,⟨hix,hjn,dG hjn⟩,_,_,⟨xM hjn hb,rfl⟩,0,j0,i,⟨hjn,hb,rfl⟩,(k+1:Nat),wi,?_⟩
  exact cH hM (chg:=λg:Nat×(Nat->List CV)=>lvG pv i g.1) (bls:=λ_=>lvB n A.length x A pv) (fls:=λg=>[CF n (x.maps g.2)]) (k+1,upd I j0 (yY (I j0) i)) ⟨⟨hkl,hI.next hkl hj0⟩,show ps.length-(k+1)<ps.length-k by omega⟩ rfl ⟨rfl,rfl,rfl,rfl,rfl,rfl,rfl⟩ ⟨rfl,trivial⟩ ⟨rfl,rfl,rfl,rfl,rfl⟩ bL aLx rfl
 obtain rfl:k=ps.length:=by replace h2:¬(k:Int)<(pv.l.length:Nat):=h2;omega
 exact⟨I,hI,fC rfl ⟨rfl,rfl,rfl,rfl,rfl,rfl,rfl⟩ ⟨rfl,trivial⟩ bL aLx rfl aYv⟩
def fac (es:Nat->List En) (r c i:Nat):Rat:=Vm.get (es i) (c:Nat)*(Vm.get (es r) (c:Nat))⁻¹
structure StR (r c kk:Nat) (es lw es' lw':Nat->List En) (P:Nat->Prop):Prop where
 yes:∀i,P i->(∀j:Int,Vm.get (es' i) j=Vm.get (es i) j+(-(fac es r c i))*Vm.get (es r) j)/\lw' i=lw i++[((kk:Int),fac es r c i)]
 no:∀i,¬P i->es' i=es i/\lw' i=lw i
theorem oN:∀{n:Nat} {l:List Nat},l.Nodup->(∀i∈l,i<n)->l.length<=n
 |0,[],_,_=>aF _
 |0,i::l,_,h=>absurd (h i (.head _)) (aM _)
 |n+1,l,hd,h=>by
  by_cases hn:n∈l
  ·have h1:=oN (n:=n) (hd.erase n) λi hi=>by
    have h2:=(hd.mem_erase_iff).1 hi
    have:=h i h2.2
    have:=h2.1
    omega
   rw[List.length_erase_of_mem hn] at h1
   omega
  have:=oN (n:=n) hd λi hi=>by
   have:=h i hi
   have:i≠n:=λe=>hn (e▸hi)
   omega
  omega
theorem kO {es:List En} {n:Nat} (h:VOk es (n:Nat)):es.length<=n:=by
 have h1:(es.map λe=>e.1.toNat).Nodup:=by
  rw[cQ,gE]
  exact h.1.imp_of_mem λ{a b} ha hb hab he=>by
   have:=h.2 a ha
   have:=h.2 b hb
   have:a.1<b.1:=hab
   omega
 have:=oN (n:=n) h1 λi hi=>by
  obtain⟨e,he,rfl⟩:=bT.1 hi
  have:=h.2 e he
  omega
 rwa [aU] at this
theorem aYw {es fs rs:List En} {q:Rat} {n:Int} (h:MgR (λa b=>a+q*b) es fs rs) (he:VOk es n) (hf:VOk fs n):VOk rs n:=⟨h.a,λe hm=>by
 have hz:e.2≠0:=h.z e hm
 have hg:=h.g e.1
 rw[vF h.a hm] at hg
 by_cases h1:Vm.get es e.1=0
 ·have h2:Vm.get fs e.1≠0:=λh2=>hz (by rw[hg];show Vm.get es e.1+q*Vm.get fs e.1=0;rw[h1,h2,eE,cG])
  obtain⟨e',he',h3⟩:=(rH hf _).1 h2
  have:=hf.2 e' he'
  rw[h3] at this
  exact⟨this.1,this.2.1,hz⟩
 obtain⟨e',he',h3⟩:=(rH he _).1 h1
 have:=he.2 e' he'
 rw[h3] at this
 exact⟨this.1,this.2.1,hz⟩⟩
theorem bWb {es fs rs:List En} {q:Rat} {B Q:Nat} (h:MgR (λa b=>a+q*b) es fs rs) (he:Asc es) (hf:Asc fs) (h1:1<=B) (be:rbE es B) (bf:rbE fs B) (hq:rb q Q):rbE rs (B+(Q+B)+1):=λe hm=>by
 have hg:=h.g e.1
 rw[vF h.a hm] at hg
 rw[hg]
 exact aFl (nS he be h1) (kN hq (nS hf bf h1))
def AI (rs:List En) (n i k:Nat) (I0 I:Nat->List CV):Prop:=∀j,j<n->((iY (I0 j)).Nodup->(iY (I j)).Nodup)/\∀r,r∈iY (I j)↔r∈iY (I0 j)\/(r=i/\∃e∈rs.take k,e.1=(j:Nat))
theorem AI.start {rs:List En} {n i:Nat} {I:Nat->List CV}:AI rs n i 0 I I:=λj _=>⟨id,λr=>⟨.inl,λh=>h.elim id λ⟨_,e,he,_⟩=>by cases he⟩⟩
theorem AI.next {rs:List En} {n i k j0 c:Nat} {I0 I:Nat->List CV} (h:AI rs n i k I0 I) (hk:k<rs.length) (hj:(rs.getD k default).1=(j0:Nat)):AI rs n i (k+1) I0 (upd I j0 (tS (I j0) c i).1):=λj hjn=>by
 obtain⟨h1,h2⟩:=h j hjn
 by_cases e:j=j0
 ·subst e
  rw[bP]
  refine⟨λhn=>aYm (h1 hn),λr=>?_⟩
  rw[aPd,h2 r,bFb hk hj]
  constructor
  ·rintro(h3|h3|⟨h3,h4⟩)
   ·exact .inr ⟨h3,.inr rfl⟩
   ·exact .inl h3
   exact .inr ⟨h3,.inl h4⟩
  rintro(h3|⟨h3,_⟩)
  ·exact .inr (.inl h3)
  exact .inl h3
 rw[bK e]
 refine⟨h1,λr=>?_⟩
 rw[h2 r,bFb hk hj]
 exact or_congr_right (and_congr_right λ_=>⟨.inl,λh=>h.elim id λh=>absurd h e⟩)
theorem aLy {G:List EntM} {lw:List En} {e:EntM} {z:En} (h:Ek G lw) (h1:e.ix=z.1) (h2:Cr e.v z.2):Ek (G++[e]) (lw++[z]):=⟨by rw[aJ,aJ,h.ln];rfl,λk hk=>by
 rw[aJ,bW] at hk
 by_cases e1:k<lw.length
 ·have e2:k<G.length:=by rw[h.ln];exact e1
  rw[List.getD,List.getD,bO e2,bO e1]
  exact h.e k e1
 obtain rfl:k=lw.length:=by omega
 have e2:¬lw.length<G.length:=by rw[h.ln];omega
 rw[List.getD,List.getD,bV oM,bV (aF _),h.ln]
 simp only[jY,List.getElem?_cons_zero,Option.getD_some]
 exact⟨h1,h2⟩⟩
theorem aYx {x:El} {n r c kk i:Nat} {es' lw':Nat->List En} {used:Nat->Prop} {rs:List En} {q:Rat} {g:Sl EntM} {LA':Option Nat} {Lc':Nat} {e:EntM} {z:En} {Cc':Nat->Nat} {I1 I2:Nat->List CV}
 (h:ElOk x n es' lw' used) (hr:r<n) (hin:i<n) (hui:¬used i) (hg:Ek g.l rs) (hm:MgR (λa b=>a+q*b) (es' i) (es' r) rs) (h1:e.ix=z.1) (h2:Cr e.v z.2)
 (hD:DI (es' r) n i (es' r).length x.I I1) (hA:AI rs n i rs.length I1 I2):
 ElOk ⟨upd x.R i g,upd x.LA i LA',upd x.Lc i Lc',upd x.L i (x.L i++[e]),x.CA,Cc',I2⟩ n (upd es' i rs) (upd lw' i (lw' i++[z])) used:=by
 have hv:=aYw hm (h.ok i hin).1 (h.ok r hr).1
 refine⟨λk hk=>?_,λk hk=>?_,λk hk=>?_,h.ca,λj hj=>(hA j hj).1 ((hD j hj).1 (h.nd j hj)),λj hj k=>?_⟩
 ·show Ek (upd x.R i g k).l (upd es' i rs k)
  by_cases e:k=i
  ·subst e;rw[bP,bP];exact hg
  rw[bK e,bK e];exact h.row k hk
 ·by_cases e:k=i
  ·subst e;rw[bP];exact⟨hv,kO hv⟩
  rw[bK e];exact h.ok k hk
 ·show Ek (upd x.L i (x.L i++[e]) k) (upd lw' i (lw' i++[z]) k)
  by_cases e:k=i
  ·subst e;rw[bP,bP];exact aLy (h.low k hk) h1 h2
  rw[bK e,bK e];exact h.low k hk
 show k∈iY (I2 j)↔_
 rw[(hA j hj).2 k,(hD j hj).2 k,h.mem j hj k,cU,cU]
 by_cases e:k=i
 ·subst e
  rw[bP]
  have hgj:Vm.get rs (j:Nat)=Vm.get (es' k) (j:Nat)+q*Vm.get (es' r) (j:Nat):=hm.g _
  constructor
  ·rintro(⟨⟨h3,h4⟩,h5⟩|⟨_,h5⟩)
   ·have h6:Vm.get (es' r) (j:Nat)=0:=bA λh6=>h5 ⟨rfl,(rH (h.ok r hr).1 _).1 h6⟩
    rw[h6,eE,cG] at hgj
    exact⟨h3,by rw[hgj];exact h4⟩
   exact⟨⟨hin,hui⟩,(rH hv _).2 h5⟩
  rintro⟨_,h4⟩
  exact .inr ⟨rfl,(rH hv _).1 h4⟩
 rw[bK e]
 constructor
 ·rintro(⟨h3,_⟩|⟨h3,_⟩)
  ·exact h3
  exact absurd h3 e
 intro h3;exact .inl ⟨h3,λ⟨h4,_⟩=>e h4⟩
theorem StR.next {r c kk k:Nat} {es lw es' lw':Nat->List En} {O:List Nat} {rs:List En} (h:StR r c kk es lw es' lw' (·∈O.take k)) (hk:k<O.length) (hO:O.Nodup) (hm:MgR (λa b=>a+(-(fac es r c (O.getD k 0)))*b) (es (O.getD k 0)) (es r) rs):es' (O.getD k 0)=es (O.getD k 0)/\lw' (O.getD k 0)=lw (O.getD k 0)/\StR r c kk es lw (upd es' (O.getD k 0) rs) (upd lw' (O.getD k 0) (lw (O.getD k 0)++[((kk:Int),fac es r c (O.getD k 0))])) (·∈O.take (k+1)):=by
 have ht:O.take (k+1)=O.take k++[O.getD k 0]:=by rw[cS,aE hk,gd hk];rfl
 have hno:O.getD k 0∉O.take k:=λhh=>by
  have h1:(O.take k++[O.getD k 0]).Nodup:=by rw[<-ht];exact hO.sublist (gV _ _)
  exact(jC.1 h1).2.2 _ hh _ (.head _) rfl
 obtain⟨a1,a2⟩:=h.no _ hno
 refine⟨a1,a2,λi hi=>?_,λi hi=>?_⟩
 ·by_cases e:i=O.getD k 0
  ·subst e;rw[bP,bP];exact⟨hm.g,rfl⟩
  rw[bK e,bK e]
  replace hi:i∈O.take (k+1):=hi
  rw[ht] at hi
  exact h.yes i ((aQ.1 hi).resolve_right λhh=>e (aI.1 hh))
 have e:i≠O.getD k 0:=λe=>hi (by show i∈O.take (k+1);rw[ht,e];simp)
 rw[bK e,bK e]
 exact h.no i λhh=>hi (by show i∈O.take (k+1);rw[ht];exact cP _ hh)
def aBs (O:List Nat):List Int:=O.map λi:Nat=>(i:Int)
theorem bFe {O:List Nat} {k:Nat} (h:k<O.length):((aBs O).map iC)[k*1]? =some (iC (O.getD k 0:Nat)):=by
 unfold aBs
 rw[bZ,kB,dS,aE h,gd h];rfl
theorem aIo {O:List Nat}:(aBs O).length=O.length:=by unfold aBs;simp
theorem aCz {O:List Nat} {i:Nat}:(aBs O).map iC++[iC (i:Nat)]=(aBs (O++[i])).map iC:=by unfold aBs;simp
theorem aRe {O:List Nat} {p q:List CV} {k:CV} {l:List Nat} (h:(O++iY (p++k::q)).Perm l):((O++[lT k])++iY (p++q)).Perm l:=by
 refine List.Perm.trans ?_ h
 unfold iY
 rw[cL,cJ,cJ,dN]
 have h2:(lT k::(List.map lT p++List.map lT q)).Perm (List.map lT p++lT k::List.map lT q):=List.perm_middle.symm
 exact List.Perm.append_left _ h2
abbrev seB (n a:Nat) (x:El) (A:List Int) (pv:Sl EntM) (inv:RatM) (O:List Nat):BL:=[elE 1 2 3 4 n a,elR n x,elL n x,elC n x,elA A,(155,0,[.p 0 0]),(65,0,[bR pv]),(62,0,inv.C),(3,1,(aBs O).map iC)]
theorem yJ {n a:Nat} {x:El} {A:List Int} {pv:Sl EntM} {inv:RatM} {O:List Nat}:scB 9 (seB n a x A pv inv O):=aB rfl (aB (cI (aR λ_ _=>rfl)) (aB (cI (aR λ_ _=>rfl)) (aB (cI (aR λ_ _=>rfl)) (aB (cI (eI _)) (aB rfl (aB rfl (aB rfl (aB (cI (eI _)) bJ))))))))
theorem aBt {n a:Nat} {x:El} {A:List Int} {pv:Sl EntM} {inv:RatM} {O:List Nat} (f:RatM):scB 10 (seB n a x A pv inv O++[(62,0,f.C)]):=aB rfl (aB (cI (aR λ_ _=>rfl)) (aB (cI (aR λ_ _=>rfl)) (aB (cI (aR λ_ _=>rfl)) (aB (cI (eI _)) (aB rfl (aB rfl (aB rfl (aB (cI (eI _)) (aB rfl bJ)))))))))
abbrev seG (c kk:Nat) (r0:Nat) (l:Nat):List (Nat×DV):=[(12,.c (.s 8 l)),(44,.c (.hp r0 0)),(9,.c (.f xO [] [(6,0),(5,0)])),(4,.c (.p 5 0)),(10,.c (.p 7 0)),(8,.c (.p 6 0)),(1,.c (iC kk)),(3,.c (iC c))]
theorem ck {α:Type} {a b:α} {l m:List α} (h:a=b) (h':l=m):a::l=b::m:=by rw[h,h']
theorem ElOk.leave {x:El} {n r c:Nat} {es lw:Nat->List En} {used:Nat->Prop} {I:Nat->List CV} (h:ElOk x n es lw used) (hr:r<n) (hI:DI (es r) n r (es r).length x.I I):ElOk (x.maps I) n es lw (λi=>used i\/i=r):=
 ⟨h.row,h.ok,h.low,h.ca,λj hj=>(hI j hj).1 (h.nd j hj),λj hj i=>by
  show i∈iY (I j)↔_
  rw[(hI j hj).2 i,h.mem j hj i,cU]
  constructor
  ·rintro⟨⟨⟨a1,a2⟩,a3⟩,a4⟩
   exact⟨⟨a1,λa=>a.elim a2 λe=>a4 ⟨e,(rH (h.ok r hr).1 _).1 (e▸a3)⟩⟩,a3⟩
  rintro⟨⟨a1,a2⟩,a3⟩
  exact⟨⟨⟨a1,λa=>a2 (.inl a)⟩,a3⟩,λ⟨e,_⟩=>a2 (.inr e)⟩⟩
def bWc:Ord:=.joinX [] [0,2001,2002,3,2004,2005,1006,2007,9] (.alt 8 (.alt 10 (trS [11,1012]) (.alt 11 (trS [10,1012]) .nil)) (.alt 11 (trS [8,10,1012]) .nil))
def bWd:Ord:=.treeX [] [0,2001,2002,3,2004,5,2006,2007,8,2009,2010,1011,2012,13,2014] (trS [15,16,2017,1018])
def bWe:Ord:=.treeX [] [0,2001,2002,3,2004,5,2006,2007,8,2009,2010,1011,12,14] (trS [13,15,2016,1017])
abbrev aYy (c kk l k:Nat):List (Nat×DV):=[(55,.c (iC k)),(53,.c (.s 8 l)),(54,.c (iC l)),(9,.c (.f xO [] [(6,0),(5,0)])),(4,.c (.p 5 0)),(10,.c (.p 7 0)),(8,.c (.p 6 0)),(1,.c (iC kk)),(3,.c (iC c))]
abbrev bFf (c kk l k i:Nat):List (Nat×DV):=(16,.c (.p 9 0))::(15,.c (iC i))::aYy c kk l k
abbrev bOi (c kk l k i:Nat) (g:Sl EntM) (k2:Nat):List (Nat×DV):=(116,.c (iC k2))::(114,.c (bR g))::(115,.c (iC (g.l.length:Nat)))::(15,.c (iC i))::aYy c kk l k
abbrev seY (y:El) (i kk:Nat) (g:Sl EntM) (A':Option Nat) (c':Nat) (f:RatM) (Cc:Nat->Nat) (I:Nat->List CV):El:=⟨upd y.R i g,upd y.LA i A',upd y.Lc i c',upd y.L i (y.L i++[⟨kk,f⟩]),y.CA,Cc,I⟩
abbrev aLz:FuncId:=115
theorem bOj:Ent Tryz.prog aLz:=aV func115 rfl kR
theorem bOk:Tryz.prog.funcs[aLz]? =some Tryz.f115:=func115
theorem bOl (x:El) {n B r c kk:Nat} {A:List Int} {es lw:Nat->List En} {used:Nat->Prop} (h:ElOk x n es lw used) (hn:n<=4096) (hr:r<n) (hu:¬used r) (hc:c<n) (hp:Vm.get (es r) (c:Nat)≠0) (hb:rbM es n B) (hbl:rbM lw n B) (h1:1<=B) (hB:B<=4398046511104) (hBo:∀i,i<n->¬used i->i≠r->4*B+1<=4398046511104) (hkk:kk<=4096) (hlw:∀i,i<n->(lw i).length<=4096):
 CtrF Tryz.prog aLz chL [.c (.p 0 0),.c (iC kk),.c (iC r),.c (iC c)] (chB n A.length x A) [LF n x,CF n x] (λg:El×(Nat->List En)×(Nat->List En)=>⟨.t [],chB n A.length g.1 A,[LF n g.1,CF n g.1],(ElOk g.1 n g.2.1 g.2.2 (λi=>used i\/i=r)/\StR r c kk es lw g.2.1 g.2.2 λi=>(i<n/\¬used i/\i≠r)/\Vm.get (es i) (c:Nat)≠0)/\rbM g.2.1 n (4*B+1)/\rbM g.2.2 n (4*B+1)⟩):=by
 have hrk:=h.row r hr
 have hro:=h.ok r hr
 have hev:=hrk.ev (hb r hr)
 obtain⟨b,hbc⟩:=h.ca c hc
 refine gN gT bOj bOk rfl rfl rfl bL aBr (aA gT mxd ?_)
 refine⟨r,⟨rfl,hr,dG hr⟩,_,eH hr,_,rfl,[6,5,0,1,2,3,4,1001],aPe x (x.R r) (A:=A) (i:=r) hrk hro.1 hro.2 hn h.ca,rfl,rfl,rfl,λI hI=>?_⟩
 replace hI:DI (es r) n r (es r).length x.I I:=hI
 refine⟨[],aWz (x.R r) (c:Nat) hev (hb r hr) hro.1.1 h1 oM,rfl,rfl,rfl,λpg hpg=>⟨[],bMq pg ((Cr.rq hpg (nS hro.1.1 (hb r hr) h1)).le) (nS hro.1.1 (hb r hr) h1) hp,rfl,rfl,rfl,λinv hinv=>?_⟩⟩
 replace hinv:Rq inv (Vm.get (es r) (c:Nat))⁻¹ B:=hinv
 refine⟨c,⟨rfl,hc,dG hc⟩,_,xM hc hbc,1,c,⟨hc,hbc⟩,λr0=>?_⟩
 show Sd _ _ _ _ _ _
 refine aVa tSd 12 3 1 rfl bL rfl ?_
 have cl1:∀{i:Nat},∀c∈(elR n x).2.2,kE i c=false:=λc hc=>gI (aR (λ_ _=>rfl) c hc)
 have cl2:∀{i:Nat},∀c∈(elL n x).2.2,kE i c=false:=λc hc=>gI (aR (λ_ _=>rfl) c hc)
 have cl3:∀{i:Nat},∀c∈(elC n x).2.2,kE i c=false:=λc hc=>gI (aR (λ_ _=>rfl) c hc)
 have cl4:∀{i:Nat},∀c∈A.map iC,kE i c=false:=λc hc=>gI (eI A c hc)
 have hkI:∀i,i∈iY (I c)↔(i<n/\¬used i/\i≠r)/\Vm.get (es i) (c:Nat)≠0:=λi=>by
  rw[(hI c hc).2 i,h.mem c hc i,cU]
  constructor
  ·rintro⟨⟨⟨a1,a2⟩,a3⟩,a4⟩
   exact⟨⟨a1,a2,λe=>a4 ⟨e,(rH hro.1 _).1 hp⟩⟩,a3⟩
  rintro⟨⟨a1,a2,a4⟩,a3⟩
  exact⟨⟨⟨a1,a2⟩,a3⟩,λ⟨e,_⟩=>a4 e⟩
 have hkd:(iY (I c)).Nodup:=(hI c hc).1 (h.nd c hc)
 have hkl:(iY (I c)).length<=n:=oN hkd λi hi=>((hkI i).1 hi).1.1
 refine dR (λ_=>true) (λg:List Nat×(Nat->List CV)×Nat×(Nat->List CV)=>seG c kk r0 g.1.length) (λg=>seB n A.length x A (x.R r) inv g.1) (λg=>[LF n x,CF n (x.maps I),itF r0 g.2.2.2]) (λg=>(g.2.1 1=I c/\g.2.2.1<=x.Cc c/\g.2.2.2 0=[.r none 0 b g.2.2.1 g.2.1])/\(g.1++iY (g.2.1 0)).Perm (iY (I c))/\∀k∈g.2.1 0,k∈I c) (λg=>(g.2.1 0).length) λhM=>⟨cH hM (chg:=λg:List Nat×(Nat->List CV)×Nat×(Nat->List CV)=>seG c kk r0 g.1.length) (bls:=λg=>seB n A.length x A (x.R r) inv g.1) (fls:=λg=>[LF n x,CF n (x.maps I),itF r0 g.2.2.2]) ([],aJr (I c),x.Cc c,λ_=>[.r none 0 b (x.Cc c) (aJr (I c))]) ⟨⟨rfl,aF _,rfl⟩,uQ _,λk hk=>hk⟩ rfl ⟨rfl,rfl,rfl,rfl,rfl,rfl,rfl,rfl,rfl⟩ ⟨rfl,rfl,rfl,trivial⟩ ⟨rfl,rfl,rfl,rfl,rfl,rfl,rfl,rfl⟩ bL yJ rfl,λ⟨O,gg,st,G⟩ ⟨⟨i1,i2,iG⟩,hO,hg0⟩=>aA gT mxd ⟨2,1,c,b,st,gg,⟨bL,rfl,iG,hc,hbc,i1,i2⟩,λh6=>?_,λp k q h6=>?_⟩⟩
 all_goals
  replace i1:gg 1=I c:=i1
  replace i2:st<=x.Cc c:=i2
  replace iG:G 0=[.r none 0 b st gg]:=iG
  replace hO:(O++iY (gg 0)).Perm (iY (I c)):=hO
  replace hg0:∀k∈gg 0,k∈I c:=hg0
  have hOl:O.length+(gg 0).length<=n:=by
   have:=hO.length_eq
   rw[aJ,aU] at this
   omega
 ·have hOk:O.Perm (iY (I c)):=by
   have h7:=hO
   rw[h6] at h7
   simpa[iY] using h7
  have hOm:∀i,i∈O↔(i<n/\¬used i/\i≠r)/\Vm.get (es i) (c:Nat)≠0:=λi=>hOk.mem_iff.trans (hkI i)
  have hOd:O.Nodup:=hOk.nodup_iff.2 hkd
  have hE0:=h.leave (c:=c) hr hI
  refine aA gT mxd ?_
  show Sd _ _ _ _ _ _
  refine dR (λ_=>true) (λg:Nat×El×(Nat->List En)×(Nat->List En)=>aYy c kk O.length g.1) (λg=>seB n A.length g.2.1 A (x.R r) inv O) (λg=>[LF n g.2.1,CF n g.2.1]) (λg=>g.1<=O.length/\ElOk g.2.1 n g.2.2.1 g.2.2.2 (λi=>used i\/i=r)/\StR r c kk es lw g.2.2.1 g.2.2.2 (·∈O.take g.1)/\rbM g.2.2.1 n (4*B+1)/\rbM g.2.2.2 n (4*B+1)) (λg=>O.length-g.1) λhM=>⟨cH hM (chg:=λg:Nat×El×(Nat->List En)×(Nat->List En)=>aYy c kk O.length g.1) (bls:=λg=>seB n A.length g.2.1 A (x.R r) inv O) (fls:=λg=>[LF n g.2.1,CF n g.2.1]) (0,x.maps I,es,lw) ⟨aC _,hE0,⟨λi hi=>absurd hi dP,λi _=>⟨rfl,rfl⟩⟩,λi hi e he=>(hb i hi e he).le,λi hi e he=>(hbl i hi e he).le⟩ rfl ⟨rfl,rfl,rfl,rfl,rfl,rfl,rfl,rfl,rfl⟩ ⟨rfl,rfl,trivial⟩ ⟨rfl,rfl,rfl,rfl,rfl,rfl,rfl,rfl,rfl⟩ bL yJ rfl,λ⟨k,y,es',lw'⟩ ⟨hk,hE,hS,hb',hbl'⟩=>aA gT mxd ⟨λh7=>aA gT mxd ?_,λh7=>aA gT mxd ?_⟩⟩
  all_goals
   replace hk:k<=O.length:=hk
   replace hE:ElOk y n es' lw' (λi=>used i\/i=r):=hE
   replace hS:StR r c kk es lw es' lw' (·∈O.take k):=hS
   replace hb':rbM es' n (4*B+1):=hb'
   replace hbl':rbM lw' n (4*B+1):=hbl'
  ·replace h7:(k:Int)<(O.length:Nat):=h7
   have hkl:k<O.length:=by omega
   obtain⟨i,hi⟩:∃i,i=O.getD k 0:=⟨_,rfl⟩
   have hiO:i∈O:=by rw[hi,gd hkl];exact iH hkl
   obtain⟨⟨hin,hui,hir⟩,hgi⟩:=(hOm i).1 hiO
   have hB4:=hBo i hin hui hir
   have hrO:r∉O.take k:=λhh=>((hOm r).1 (cW hh)).1.2.2 rfl
   obtain⟨er,-⟩:=hS.no r hrO
   have hni:i∉O.take k:=λhh=>by
    have h1:(O.take k++[O.getD k 0]).Nodup:=by
     have ht:O.take (k+1)=O.take k++[O.getD k 0]:=by rw[cS,aE hkl,gd hkl];rfl
     rw[<-ht];exact hOd.sublist (gV _ _)
    exact(jC.1 h1).2.2 _ hh _ (by rw[hi];exact .head _) rfl
   obtain⟨ei,el⟩:=hS.no i hni
   have hrow:=hE.row i hin
   rw[ei] at hrow
   have hoi:=h.ok i hin
   have hlo:=hE.low i hin
   rw[el] at hlo
   have hli:=hlw i hin
   have hll:(y.L i).length=(lw i).length:=hlo.ln
   have hci:(dX n λj=>bR (y.R j))[i*1]? =some (bR (y.R i)):=eH hin
   have hci2:(dX n (hdP y.LA y.Lc y.L))[i*1]? =some (.h (y.LA i) (y.L i).length (y.Lc i)):=eH hin
   have rg:=nS hoi.1.1 (hb i hin) h1 (i:=(c:Nat))
   have rv:rb (Vm.get (es r) (c:Nat))⁻¹ B:=hinv.rb h1
   have rf:rb (fac es r c i) (B+B):=kN rg rv
   have cg:=aWz (y.R i) (c:Nat) (hrow.ev (hb i hin)) (hb i hin) hoi.1.1 h1 oM
   have ix1:k*1<((aBs O).map iC).length:=by rw[aU,aIo];omega
   refine⟨k,⟨rfl,hkl,ix1⟩,_,(bFe hkl).trans (by rw[<-hi]),?_⟩
   refine⟨bWc,by kernel_rfl,RatM,λf=>⟨bFf c kk O.length k i++[],[],seB n A.length y A (x.R r) inv O++[(62,0,f.C)],[LF n y,CF n y]⟩,λf=>Cr f (fac es r c i),⟨i,⟨rfl,hin,dG hin⟩,_,_,⟨hci,rfl⟩,?_⟩,λf hf=>?_⟩
   ·have cm:∀g:RatM,Cr g (Vm.get (es i) (c:Nat))->Ctr Tryz.prog aOl [] [.a g.C,.a inv.C] [] (rG (fac es r c i)):=λg hg=>aBk g inv ((Cr.rq hg rg).le) hinv.le
    exact⟨⟨[],cg,rfl,rfl,rfl,λg hg=>⟨ck rfl (ck rfl (ck rfl (ck (congrArg sI hci) (ck rfl (ck rfl rfl))))),⟨[],cm g hg,rfl,rfl,rfl,λf hf=>⟨ck rfl (ck rfl (ck rfl (ck (congrArg sI hci) (ck rfl (ck rfl rfl))))),ck rfl (ck rfl (ck rfl (ck (congrArg sI hci) (ck rfl (ck rfl rfl))))),cH hM (chg:=λ_:RatM=>bFf c kk O.length k i) (bls:=λf=>seB n A.length y A (x.R r) inv O++[(62,0,f.C)]) (fls:=λ_=>[LF n y,CF n y]) f hf rfl ⟨rfl,rfl,rfl,rfl,rfl,rfl,rfl,rfl,rfl,rfl⟩ ⟨rfl,rfl,trivial⟩ ⟨rfl,rfl,rfl,rfl,rfl,rfl,rfl,rfl,rfl,rfl,rfl⟩ bL (aBt f) rfl⟩⟩,ck rfl (ck rfl (ck rfl (ck (congrArg sI hci) (ck rfl (ck rfl rfl))))),[],cm g hg,rfl,rfl,rfl,λf hf=>⟨ck rfl (ck rfl (ck rfl (ck (congrArg sI hci) (ck rfl (ck rfl rfl))))),cH hM (chg:=λ_:RatM=>bFf c kk O.length k i) (bls:=λf=>seB n A.length y A (x.R r) inv O++[(62,0,f.C)]) (fls:=λ_=>[LF n y,CF n y]) f hf rfl ⟨rfl,rfl,rfl,rfl,rfl,rfl,rfl,rfl,rfl,rfl⟩ ⟨rfl,rfl,trivial⟩ ⟨rfl,rfl,rfl,rfl,rfl,rfl,rfl,rfl,rfl,rfl,rfl⟩ bL (aBt f) rfl⟩⟩⟩,ck rfl (ck rfl (ck rfl (ck (congrArg sI hci) (ck rfl (ck rfl rfl))))),[],cg,rfl,rfl,rfl,λg hg=>⟨ck rfl (ck rfl (ck rfl (ck (congrArg sI hci) (ck rfl (ck rfl rfl))))),[],cm g hg,rfl,rfl,rfl,λf hf=>⟨ck rfl (ck rfl (ck rfl (ck (congrArg sI hci) (ck rfl (ck rfl rfl))))),cH hM (chg:=λ_:RatM=>bFf c kk O.length k i) (bls:=λf=>seB n A.length y A (x.R r) inv O++[(62,0,f.C)]) (fls:=λ_=>[LF n y,CF n y]) f hf rfl ⟨rfl,rfl,rfl,rfl,rfl,rfl,rfl,rfl,rfl,rfl⟩ ⟨rfl,rfl,trivial⟩ ⟨rfl,rfl,rfl,rfl,rfl,rfl,rfl,rfl,rfl,rfl,rfl⟩ bL (aBt f) rfl⟩⟩⟩
   replace hf:Cr f (fac es r c i):=hf
   have hcl:∀c'∈(⟨kk,f⟩:EntM).C,fB c'=true:=λc' hc'=>by
    rcases aW.1 hc' with rfl|hc'
    ·rfl
    exact gJ _ c' hc'
   refine⟨bWd,by kernel_rfl,i,⟨rfl,hin,dG hin⟩,_,_,⟨hci2,rfl⟩,ck rfl (ck rfl (ck rfl (ck (congrArg sI hci2) (ck rfl (ck rfl (ck rfl (ck rfl rfl))))))),0,i,⟨rfl,hin,rfl,rfl,(fU _).symm,by show(y.L i).length+1<=maxLen;simp only[maxLen];omega,by show((y.L i).length+1)*64<=_;omega,hcl⟩,λA' c'=>⟨ck rfl (ck rfl (ck rfl (ck (congrArg sI hci2) (ck rfl (ck rfl (ck rfl (ck rfl rfl))))))),i,⟨rfl,hin,dG hin⟩,_,aBo (e:=⟨kk,f⟩) hin,?_⟩⟩
   refine⟨bWe,by kernel_rfl,i,⟨rfl,hin,dG hin⟩,_,_,⟨hci,rfl⟩,[],bMp f ((Cr.rq hf rf).le),rfl,rfl,rfl,λq hq=>⟨ck rfl (ck rfl (ck rfl (ck rfl (ck (congrArg sI hci) (ck rfl (ck rfl (ck rfl (ck rfl rfl)))))))),[],bNb (y.R i) (x.R r) q (hrow.ev (hb i hin)) hev (hb i hin) (hb r hr) h1 (Cr.rq hq (aBj rf)) (aBj rf) oM hoi.1.1 hro.1.1 (by have:=hoi.2;omega) (by have:=hro.2;omega),rfl,rfl,rfl,λg hg=>⟨ck rfl (ck rfl (ck rfl (ck rfl (ck (congrArg sI hci) (ck rfl (ck rfl (ck rfl (ck rfl rfl)))))))),i,⟨rfl,hin,dG hin⟩,_,jN (c:=bR g) (Q:=λk=>bR (upd y.R i g k)) hin (λj _=>?_),?_⟩⟩⟩
   ·by_cases e:j=i
    ·subst e;rw[if_pos rfl,bP]
    rw[if_neg e,bK e]
   obtain⟨rs,hgr,hm⟩:=hg
   have hv:=aYw hm hoi.1 hro.1
   have hvl:=kO hv
   have hgl:=hgr.ln
   have hci3:(dX n λj=>bR (upd y.R i g j))[i*1]? =some (bR g):=(eH hin).trans (congrArg (λz=>some (bR z)) bP)
   refine⟨_,rfl,[6,5,0,1,2,3,4,1001],aPe (seY y i kk g A' c' f y.Cc y.I) (x.R r) (A:=A) (i:=i) hrk hro.1 hro.2 hn hE.ca,rfl,rfl,rfl,λI2 hI2=>?_⟩
   replace hI2:DI (es r) n i (es r).length y.I I2:=hI2
   refine⟨i,⟨rfl,hin,dG hin⟩,_,hci3,?_⟩
   show Sd _ _ _ _ _ _
   refine dR (λ_=>true) (λu:Nat×(Nat->Nat)×(Nat->List CV)=>bOi c kk O.length k i g u.1) (λu=>seB n A.length (seY y i kk g A' c' f u.2.1 u.2.2) A (x.R r) inv O) (λu=>[LF n (seY y i kk g A' c' f u.2.1 u.2.2),CF n (seY y i kk g A' c' f u.2.1 u.2.2)]) (λu=>u.1<=rs.length/\AI rs n i u.1 I2 u.2.2) (λu=>rs.length-u.1) λhM2=>⟨cH hM2 (chg:=λu:Nat×(Nat->Nat)×(Nat->List CV)=>bOi c kk O.length k i g u.1) (bls:=λu=>seB n A.length (seY y i kk g A' c' f u.2.1 u.2.2) A (x.R r) inv O) (fls:=λu=>[LF n (seY y i kk g A' c' f u.2.1 u.2.2),CF n (seY y i kk g A' c' f u.2.1 u.2.2)]) (0,y.Cc,I2) ⟨aC _,AI.start⟩ rfl ⟨rfl,rfl,rfl,rfl,rfl,rfl,rfl,rfl,rfl⟩ ⟨aFs (T:=82) (n:=n) (A:=upd y.LA i A') (cap:=upd y.Lc i c') (G:=y.L) (j:=i) (e:=⟨kk,f⟩),rfl,trivial⟩ ⟨rfl,rfl,rfl,rfl,rfl,rfl,rfl,rfl,rfl,rfl,rfl,rfl,rfl⟩ bL yJ rfl,λ⟨k2,Cc,I3⟩ ⟨hk2,hA⟩=>aA gT mxd ⟨λh8=>aA gT mxd ?_,λh8=>aA gT mxd ?_⟩⟩
   all_goals
    replace hk2:k2<=rs.length:=hk2
    replace hA:AI rs n i k2 I2 I3:=hA
   ·have hk2l:k2<rs.length:=by replace h8:(k2:Int)<(g.l.length:Nat):=h8;omega
    have he:=hgr.e k2 hk2l
    have e0:=hv.2 _ (gW hk2l)
    obtain⟨j0,hj0⟩:∃j0:Nat,(rs.getD k2 default).1=(j0:Nat):=⟨(rs.getD k2 default).1.toNat,by omega⟩
    have hjn:j0<n:=by omega
    have hix:(g.l.getD k2 default).ix=(j0:Nat):=he.1.trans hj0
    obtain⟨bb,hbj⟩:=hE.ca j0 hjn
    refine⟨k2,⟨rfl,show k2<g.l.length by omega⟩,oLv,by kernel_rfl,j0,⟨hix,hjn,dG hjn⟩,_,_,⟨xM hjn hbj,rfl⟩,1,j0,i,⟨hjn,hbj,rfl⟩,(k2+1:Nat),wi,?_⟩
    exact cH hM2 (chg:=λu:Nat×(Nat->Nat)×(Nat->List CV)=>bOi c kk O.length k i g u.1) (bls:=λu=>seB n A.length (seY y i kk g A' c' f u.2.1 u.2.2) A (x.R r) inv O) (fls:=λu=>[LF n (seY y i kk g A' c' f u.2.1 u.2.2),CF n (seY y i kk g A' c' f u.2.1 u.2.2)]) (k2+1,upd Cc j0 (tS (I3 j0) (Cc j0) i).2,upd I3 j0 (tS (I3 j0) (Cc j0) i).1) ⟨⟨hk2l,hA.next hk2l hj0⟩,show rs.length-(k2+1)<rs.length-k2 by omega⟩ rfl ⟨rfl,rfl,rfl,rfl,rfl,rfl,rfl,rfl,rfl⟩ ⟨rfl,rfl,trivial⟩ ⟨rfl,rfl,rfl,rfl,rfl,rfl,rfl,rfl,rfl,rfl,rfl,rfl,rfl⟩ bL yJ rfl
   obtain rfl:k2=rs.length:=by replace h8:¬(k2:Int)<(g.l.length:Nat):=h8;omega
   have hSn:=hS.next hkl hOd (rs:=rs) (by rw[<-hi];exact hm)
   rw[<-hi] at hSn
   obtain⟨-,-,hS2⟩:=hSn
   have hE2:=aYx (c:=c) (kk:=kk) (LA':=A') (Lc':=c') (Cc':=Cc) (e:=⟨kk,f⟩) (z:=((kk:Int),fac es r c i)) hE hr hin (λhh=>hh.elim hui hir) hgr (by rw[ei,er];exact hm) rfl hf (by rw[er];exact hI2) hA
   rw[el] at hE2
   have hbr:=bWb hm hoi.1.1 hro.1.1 h1 (hb i hin) (hb r hr) (aBj rf)
   refine⟨(k+1:Nat),wi,cH hM (chg:=λg:Nat×El×(Nat->List En)×(Nat->List En)=>aYy c kk O.length g.1) (bls:=λg=>seB n A.length g.2.1 A (x.R r) inv O) (fls:=λg=>[LF n g.2.1,CF n g.2.1]) (k+1,seY y i kk g A' c' f Cc I3,upd es' i rs,upd lw' i (lw i++[((kk:Int),fac es r c i)])) ⟨⟨hkl,hE2,hS2,λj hj=>?_,λj hj=>?_⟩,show O.length-(k+1)<O.length-k by omega⟩ rfl ⟨rfl,rfl,rfl,rfl,rfl,rfl,rfl,rfl,rfl⟩ ⟨rfl,rfl,trivial⟩ ⟨rfl,rfl,rfl,rfl,rfl,rfl,rfl,rfl,rfl⟩ bL yJ rfl⟩
   ·show rbE (upd es' i rs j) _
    by_cases e:j=i
    ·subst e;rw[bP];exact λe' he'=>(hbr e' he').le
    rw[bK e];exact hb' j hj
   show rbE (upd lw' i _ j) _
   by_cases e:j=i
   ·subst e
    rw[bP]
    intro e' he'
    rcases aQ.1 he' with he'|he'
    ·exact(hbl j hin e' he').le
    rw[aI.1 he'];exact rf.le
   rw[bK e];exact hbl' j hj
  replace h7:¬(k:Int)<(O.length:Nat):=h7
  obtain rfl:k=O.length:=by omega
  rw[cU] at hS
  exact⟨(y,es',lw'),⟨⟨hE,λi hi=>hS.yes i ((hOm i).2 hi),λi hi=>hS.no i λhh=>hi ((hOm i).1 hh)⟩,hb',hbl'⟩,fC rfl ⟨rfl,rfl,rfl,rfl,rfl⟩ ⟨rfl,rfl,trivial⟩ bL aLv rfl aBr⟩
 have hG':upd G 0 [CV.r none 0 b (x.Cc c) (wR p q (I c) k)] 0=[CV.r none 0 b (x.Cc c) (wR p q (I c) k)]:=bP
 have hk:k∈I c:=hg0 k (by rw[h6];exact cX _ (.head _))
 have hmea:(p++q).length<(gg 0).length:=by rw[h6];simp
 refine⟨2,1,c,b,k,wR p q (I c) k,⟨bL,rfl,hG',hc,hbc,rfl,hk⟩,?_⟩
 have m8:∀{i:Nat},∀c∈(aBs O).map iC++[iC (lT k:Nat)],kE i c=false:=λc hc=>by rw[aCz] at hc;exact gI (eI _ c hc)
 have l8:O.length*1=((aBs O).map iC).length:=by rw[aU,aIo];omega
 refine⟨⟨rfl,l8,by show O.length+1<=maxLen;simp only[maxLen];omega,by show(O.length+1)*8<=_;omega,m8⟩,cl1,cl2,cl3,cl4,bDh,?_⟩
 exact cH hM (chg:=λg:List Nat×(Nat->List CV)×Nat×(Nat->List CV)=>seG c kk r0 g.1.length) (bls:=λg=>seB n A.length x A (x.R r) inv g.1) (fls:=λg=>[LF n x,CF n (x.maps I),itF r0 g.2.2.2]) (O++[lT k],wR p q (I c) k,x.Cc c,upd G 0 [.r none 0 b (x.Cc c) (wR p q (I c) k)]) ⟨⟨⟨rfl,aF _,hG'⟩,aRe (h6▸hO),λk' hk'=>hg0 k' (by
  rw[h6]
  rcases aQ.1 hk' with hh|hh
  ·exact cP _ hh
  exact cX _ (.tail _ hh))⟩,hmea⟩ rfl ⟨rfl,rfl,rfl,rfl,rfl,rfl,rfl,rfl,congrArg (λl:List CV=>((3,1,l):TypeId×Nat×List CV)) aCz⟩ ⟨rfl,rfl,rfl,trivial⟩ ⟨by show O.length+1=(O++[lT k]).length;simp,rfl,rfl,rfl,rfl,rfl,rfl,rfl⟩ bL yJ rfl
end Go.Proofs.YtghncoghdcmdfaaGreat
namespace Go.Proofs.YtghncoghdcmdfaaGreat
open Go.Vg _root_.Go.Proofs.Tryz
open Go.Vm hiding sgn
open Go.Vy hiding val
set_option maxRecDepth 8000
def cmE (x y:Int):Int:=if x<y then-1 else if y<x then 1 else 0
theorem aYz {x y:Int}:cmE x y<0↔x<y:=by unfold cmE;split<;>(try split)<;>omega
abbrev bOm:FuncId:=207
theorem cAt:Ent Tryz.prog bOm:=aV func207 rfl kR
theorem cAu:Tryz.prog.funcs[bOm]? =some Tryz.f207:=func207
theorem bHq (x:Int):Ctr Tryz.prog bOm [] [.c (iC x)] [] (λ_:Unit=>⟨pC False,[],True⟩):=by
 refine bE gT cAt cAu rfl rfl rfl bL aT (aA gT mxd ⟨(),trivial,aO (show(x≠x↔False) from ⟨λh=>h rfl,λh=>h.elim⟩) rfl trivial⟩)
abbrev bOn:FuncId:=159
theorem cAv:Ent Tryz.prog bOn:=aV func159 rfl kR
theorem cAw:Tryz.prog.funcs[bOn]? =some Tryz.f159:=func159
theorem bHr (x y:Int):Ctr Tryz.prog bOn [] [.c (iC x),.c (iC y)] [] (λ_:Unit=>⟨.c (iC (cmE x y)),[],True⟩):=by
 refine bE gT cAv cAw rfl rfl rfl bL aT (aA gT mxd ⟨[],bHq x,rfl,rfl,rfl,λ_ _=>⟨[],bHq y,rfl,rfl,rfl,λ_ _=>⟨λh=>absurd h id,λ_=>aA gT mxd ⟨λh=>absurd h id,λ_=>aA gT mxd ⟨λh1=>aA gT mxd ?_,λh1=>aA gT mxd ⟨λh2=>aA gT mxd ?_,λh2=>aA gT mxd ?_⟩⟩⟩⟩⟩⟩)
 ·replace h1:x<y:=h1
  exact⟨(),trivial,aO (show-1=cmE x y by unfold cmE;rw[if_pos h1]) rfl trivial⟩
 ·replace h1:¬x<y:=h1
  replace h2:y<x:=h2
  exact⟨(),trivial,aO (show 1=cmE x y by unfold cmE;rw[if_neg h1,if_pos h2]) rfl trivial⟩
 replace h1:¬x<y:=h1
 replace h2:¬y<x:=h2
 exact⟨(),trivial,aO (show 0=cmE x y by unfold cmE;rw[if_neg h1,if_neg h2]) rfl trivial⟩
abbrev bOo:FuncId:=209
theorem cAx:Ent Tryz.prog bOo:=aV func209 rfl kR
theorem cAy:Tryz.prog.funcs[bOo]? =some Tryz.f209:=func209
theorem aZa (x:Int):Ctr Tryz.prog bOo [] [.c (iC x)] [] (λ_:Unit=>⟨pC False,[],True⟩):=by
 refine bE gT cAx cAy rfl rfl rfl bL aT (aA gT mxd ⟨(),trivial,aO (show(x≠x↔False) from ⟨λh=>h rfl,λh=>h.elim⟩) rfl trivial⟩)
abbrev bOp:FuncId:=161
theorem cAz:Ent Tryz.prog bOp:=aV func161 rfl kR
theorem cBa:Tryz.prog.funcs[bOp]? =some Tryz.f161:=func161
theorem bWf (x y:Int):Ctr Tryz.prog bOp [] [.c (iC x),.c (iC y)] [] (λ_:Unit=>⟨.c (iC (cmE x y)),[],True⟩):=by
 refine bE gT cAz cBa rfl rfl rfl bL aT (aA gT mxd ⟨[],aZa x,rfl,rfl,rfl,λ_ _=>⟨[],aZa y,rfl,rfl,rfl,λ_ _=>⟨λh=>absurd h id,λ_=>aA gT mxd ⟨λh=>absurd h id,λ_=>aA gT mxd ⟨λh1=>aA gT mxd ?_,λh1=>aA gT mxd ⟨λh2=>aA gT mxd ?_,λh2=>aA gT mxd ?_⟩⟩⟩⟩⟩⟩)
 ·replace h1:x<y:=h1
  exact⟨(),trivial,aO (show-1=cmE x y by unfold cmE;rw[if_pos h1]) rfl trivial⟩
 ·replace h1:¬x<y:=h1
  replace h2:y<x:=h2
  exact⟨(),trivial,aO (show 1=cmE x y by unfold cmE;rw[if_neg h1,if_pos h2]) rfl trivial⟩
 replace h1:¬x<y:=h1
 replace h2:¬y<x:=h2
 exact⟨(),trivial,aO (show 0=cmE x y by unfold cmE;rw[if_neg h1,if_neg h2]) rfl trivial⟩
abbrev aMa:FuncId:=162
theorem bOq:Ent Tryz.prog aMa:=aV func162 rfl kR
theorem bOr:Tryz.prog.funcs[aMa]? =some Tryz.f162:=func162
theorem bFg (i j:IntM) {a b:Int} (hi:In i a 35184372088832) (hj:In j b 35184372088832):Ctr Tryz.prog aMa [] [.a i.C,.a j.C] [] (λ_:Unit=>⟨.c (iC (cmE a b)),[],True⟩):=by
 have ha:=hi.abs
 have hb:=hj.abs
 refine bE gT bOq bOr rfl rfl rfl bL aT (aA gT mxd ⟨.seq [(0,false),(2,false),(1,false),(3,true),(4,false),(5,false)],by kernel_rfl,[],aBi i hi,rfl,rfl,rfl,λ_ _=>⟨[],aBi j hj,rfl,rfl,rfl,λ_ _=>⟨λh=>aA gT mxd ?_,λh=>aA gT mxd ⟨λh2=>aA gT mxd ?_,λh2=>aA gT mxd ⟨λh3=>aA gT mxd ?_,λh3=>aA gT mxd ?_⟩⟩⟩⟩⟩)
 ·replace h:sgn a<sgn b:=h
  refine⟨(),trivial,aO ?_ rfl trivial⟩
  show(-1:Int)=cmE a b
  unfold sgn at h;unfold cmE
  (repeat split at*)<;>omega
 all_goals replace h:¬sgn a<sgn b:=h
 ·replace h2:sgn b<sgn a:=h2
  refine⟨(),trivial,aO ?_ rfl trivial⟩
  show(1:Int)=cmE a b
  unfold sgn at h h2;unfold cmE
  (repeat split at*)<;>omega
 all_goals replace h2:¬sgn b<sgn a:=h2
 ·replace h3:sgn a<0:=h3
  refine⟨[],sN j.m i.m hj.lm hi.lm hj.ln hi.ln,rfl,rfl,rfl,λ_ _=>⟨(),trivial,aO ?_ rfl trivial⟩⟩
  show pT (val j.m.l) (val i.m.l)=cmE a b
  rw[ha,hb]
  unfold sgn at h h2 h3;unfold cmE pT
  (repeat split at*)<;>omega
 replace h3:¬sgn a<0:=h3
 refine⟨[],sN i.m j.m hi.lm hj.lm hi.ln hj.ln,rfl,rfl,rfl,λ_ _=>⟨(),trivial,aO ?_ rfl trivial⟩⟩
 show pT (val i.m.l) (val j.m.l)=cmE a b
 rw[ha,hb]
 unfold sgn at h h2 h3;unfold cmE pT
 (repeat split at*)<;>omega
def cmQ (a b:Rat):Int:=if a<b then-1 else if b<a then 1 else 0
theorem bHs (q:Rat):sgn q.num=cmQ q 0:=by
 have h1:q<0↔q.num<0:=by
  have:=Rat.num_nonneg (q:=q)
  grind
 have h2:q.num=0↔q=0:=cK
 unfold sgn cmQ
 (repeat split)<;>grind
theorem bFh {a b:Rat} (h:sgn a.num≠sgn b.num):cmE (sgn a.num) (sgn b.num)=cmQ a b:=by
 rw[bHs,bHs] at*
 unfold cmE
 unfold cmQ at*
 (repeat split at*)<;>grind
theorem aZb {a b c d:Int} {p q:Rat} (hc:0<c) (hd:0<d) (h1:Rat.divInt a c=p) (h2:Rat.divInt b d=q):cmE (a*d) (b*c)=cmQ p q:=by
 have e1:=aNc hc hd h1 h2
 have e2:=aNc hd hc h2 h1
 unfold cmE cmQ
 simp only[e1,e2]
abbrev aPf:FuncId:=100
theorem bWg:Ent Tryz.prog aPf:=aV func100 rfl kR
theorem bWh:Tryz.prog.funcs[aPf]? =some Tryz.f100:=func100
theorem bFi (r s:RatM) {a b:Rat} (hr:Rq r a 4398046511104) (hs:Rq s b 4398046511104):Ctr Tryz.prog aPf [] [.a r.C,.a s.C] [] (λ_:Unit=>⟨.c (iC (cmQ a b)),[],True⟩):=by
 refine bE gT bWg bWh rfl rfl rfl bL aT (aA gT mxd ⟨.seq [(0,false),(2,false),(1,false),(3,true),(4,false),(5,false)],by kernel_rfl,[],kM r hr.le,rfl,rfl,rfl,λ_ _=>⟨[],kM s hs.le,rfl,rfl,rfl,λ_ _=>⟨λh=>aA gT mxd ?_,λh=>aA gT mxd ?_⟩⟩⟩)
 ·exact⟨[],bHr _ _,rfl,rfl,rfl,λ_ _=>⟨(),trivial,aO (bFh h) rfl trivial⟩⟩
 refine⟨[],pU r hr.le,rfl,rfl,rfl,λu hu=>⟨[],pU s hs.le,rfl,rfl,rfl,λv hv=>⟨λh=>aA gT mxd ?_,λ_=>aA gT mxd ?_⟩⟩⟩
 ·obtain⟨u1,u2,u3⟩:=hu h.1
  obtain⟨v1,v2,v3⟩:=hv h.2
  have m1:=vV u1 (b:=v.2.1) ⟨by omega,v2.2⟩
  have m2:=vV v1 (b:=u.2.1) ⟨by omega,u2.2⟩
  exact⟨_,m1.1,_,m2.1,[],bWf _ _,rfl,rfl,rfl,λ_ _=>⟨(),trivial,aO (aZb u2.1 v2.1 u3 v3) rfl trivial⟩⟩
 refine⟨[],oJ r hr bL bL,rfl,rfl,rfl,λx ⟨hx,hxz⟩=>⟨[],oJ s hs bL bL,rfl,rfl,rfl,λy ⟨hy,hyz⟩=>?_⟩⟩
 have ldx:=aH (dB hx.ld) hx.bd
 have ldy:=aH (dB hy.ld) hy.bd
 have l1:=tY hx.n.len (b:=(val y.d.l:Nat)) ldy
 have l2:=tY hy.n.len (b:=(val x.d.l:Nat)) ldx
 refine⟨.seq [(0,false),(1,false),(2,false),(4,false),(5,false),(6,false),(3,false),(7,true),(8,true),(9,false)],by kernel_rfl,[],xC x.n (den y.d) (hx.n.le bL) (aFi hy.ld (aH hy.bd bL)),rfl,rfl,rfl,λp hp=>⟨[],xC y.n (den x.d) (hy.n.le bL) (aFi hx.ld (aH hx.bd bL)),rfl,rfl,rfl,λq hq=>⟨[],bFg p q (Ci.in hp (aH l1 bL)) (Ci.in hq (aH l2 bL)),rfl,rfl,rfl,λ_ _=>⟨(),trivial,aO (aZb oM oM hx.v hy.v) rfl trivial⟩⟩⟩⟩
theorem bOs (r s:RatM) {a:Rat} (hr:Rq r a 4398046511104) (hs:Rq s a 4398046511104):Ctr Tryz.prog aPf [] [.a r.C,.a s.C] [] (λ_:Unit=>⟨.c (iC 0),[],True⟩):=by
 have h:=bFi r s hr hs
 rw[show cmQ a a=0 by unfold cmQ;rw[if_neg Rat.lt_irrefl,if_neg Rat.lt_irrefl]] at h
 exact h
end Go.Proofs.YtghncoghdcmdfaaGreat
namespace Go.Proofs.YtghncoghdcmdfaaGreat
open Go.Vg _root_.Go.Proofs.Tryz
open Go.Vm
open Go.Vy hiding val
set_option maxRecDepth 20000
section bits
open Go.RowKit Go.Shelf
def cBb:Ren:=⟨λn=>if n=125 then 223 else if n=128 then 250 else if n=129 then 251 else 0,λn=>if n=3 then 3 else if n=4 then 4 else if n=5 then 5 else if n=9 then 9 else if n=46 then 223 else if n=51 then 123 else if n=53 then 190 else 0,λx=>x⟩
theorem bFj:Lays.n125 Tryz.prog cBb:=by
 constructor<;>first|kernel_rfl|(intro w;kernel_rfl)
end bits
theorem aZc (ys:List EntM):ecs ys=fl EntM.C default ys:=by
 have h:∀n,n<=ys.length->ecs (ys.take n)=flatR n λj=>(ys.getD j default).C:=λn=>by
  induction n with
  |zero=>intro _;rfl
  |succ n ih=>
   intro h
   rw[fX,<-ih oM,cS,aE h,gd h]
   exact(oK _ _).symm
 have h2:=h ys.length (aF _)
 rw[cU] at h2
 exact h2
theorem aPg {ys:List EntM} {k:Nat} {e:EntM} (h:k<ys.length):kD (ecs ys) (k*4) e.C=ecs (ys.set k e)/\k*4+e.C.length<=(ecs ys).length:=by
 rw[aZc,aZc]
 exact aPc (f:=EntM.C) (e:=4) (λ_=>rfl) h
theorem aBu {ys:List EntM} {k:Nat} (h:k<ys.length):((ecs ys).drop (k*4)).take 4=(ys.getD k default).C/\(ys.getD k default).C.length=4:=⟨(pV ys k h).symm,rfl⟩
theorem uB {ys:List EntM} {k:Nat} (h:k<ys.length):k*4<(ecs ys).length:=by rw[fU];omega
def SrE (ys:List EntM) (m:Nat):Prop:=∀a b,a<b->b<m->(ys.getD a default).ix<=(ys.getD b default).ix
def SwE (ys:List EntM) (j:Nat):List EntM:=(ys.set j (ys.getD (j-1) default)).set (j-1) (ys.getD j default)
theorem aPh {ys:List EntM} {j k:Nat} (h:j<ys.length):(SwE ys j).getD k default=if k=j-1 then ys.getD j default else if k=j then ys.getD (j-1) default else ys.getD k default:=by
 unfold SwE
 simp only[aZ,List.getElem?_set,bI]
 by_cases h1:k=j-1
 ·subst h1;rw[if_pos rfl,if_pos rfl,if_pos oM];rfl
 rw[if_neg h1,if_neg (fG h1)]
 by_cases h2:k=j
 ·subst h2;rw[if_pos rfl,if_pos rfl,if_pos h];rfl
 rw[if_neg h2,if_neg (fG h2)]
theorem bOt {ys:List EntM} {j:Nat}:(SwE ys j).length=ys.length:=by unfold SwE;rw[bI,bI]
theorem bFk {ys:List EntM} {j:Nat} (h:j<ys.length):(SwE ys j).Perm ys:=by
 unfold SwE
 have h1:j-1<ys.length:=by omega
 rw[gd h,gd h1]
 exact List.set_set_perm h h1
def SnE (ys:List EntM) (i j:Nat):Prop:=(∀a b,a<b->b<=i->a≠j->b≠j->(ys.getD a default).ix<=(ys.getD b default).ix)/\∀b,j<b->b<=i->(ys.getD j default).ix<(ys.getD b default).ix
theorem SnE.start {ys:List EntM} {i:Nat} (h:SrE ys i):SnE ys i i:=⟨λa b h1 h2 _ h4=>h a b h1 oM,λb h1 h2=>by omega⟩
theorem SnE.stop {ys:List EntM} {i j:Nat} (h:SnE ys i j) (he:¬(0<j/\(ys.getD j default).ix<(ys.getD (j-1) default).ix)):SrE ys (i+1):=λa b h1 h2=>by
 by_cases ha:a=j
 ·subst ha;exact sY (h.2 b h1 oM)
 by_cases hb:b=j
 ·subst hb
  have h3:(ys.getD (b-1) default).ix<=(ys.getD b default).ix:=sX.1 λhh=>he ⟨by omega,hh⟩
  by_cases h4:a=b-1
  ·subst h4;exact h3
  exact Int.le_trans (h.1 a (b-1) oM oM ha oM) h3
 exact h.1 a b h1 oM ha hb
theorem SnE.next {ys:List EntM} {i j:Nat} (h:SnE ys i j) (hi:i<ys.length) (hj:j<=i) (h0:0<j) (he:(ys.getD j default).ix<(ys.getD (j-1) default).ix):SnE (SwE ys j) i (j-1):=by
 have hjl:j<ys.length:=by omega
 refine⟨λa b h1 h2 h3 h4=>?_,λb h1 h2=>?_⟩
 ·rw[aPh hjl,aPh hjl,if_neg h3,if_neg h4]
  by_cases ha:a=j
  ·rw[if_pos ha,if_neg oM]
   exact h.1 (j-1) b oM h2 oM oM
  rw[if_neg ha]
  by_cases hb:b=j
  ·rw[if_pos hb];exact h.1 a (j-1) oM oM ha oM
  rw[if_neg hb];exact h.1 a b h1 h2 ha hb
 rw[aPh hjl,aPh hjl,if_pos rfl,if_neg oM]
 by_cases hb:b=j
 ·rw[if_pos hb];exact he
 rw[if_neg hb];exact h.2 b oM h2
abbrev bHt:FuncId:=223
theorem bWi:Ent Tryz.prog bHt:=aV func223 rfl kR
theorem bWj {x:Int} (h0:0<=x) (h1:x<=18446744073709551615):Ctr Tryz.prog bHt [] [.c (.v (.int .u64 x))] [] (λ_:Unit=>⟨.c (iC (Go.Lib.bitLen x.toNat:Nat)),[],True⟩):=by
 refine⟨bWi,aT,λρ w vals hv hD hF=>?_⟩
 match vals,hv with
 |[v1],⟨h2,_⟩=>
  have e1:=h2.inv_c.inv_v
  subst e1
  exact(Go.Proofs.Any.bits_Len bFj x w h0 h1).mono λe w' ⟨he,hw⟩=>⟨_,he,aVj hD hF (hw▸Ext.refl w) rfl⟩
abbrev fBy:FuncId:=186
theorem eBy:Ent Tryz.prog fBy:=aV func186 rfl kR
theorem bBy:Tryz.prog.funcs[fBy]? =some Tryz.f186:=func186
theorem cBc (e f:EntM):Ctr Tryz.prog fBy [] [.a e.C,.a f.C] [] (λ_:Unit=>⟨.c (iC (cmE e.ix f.ix)),[],True⟩):=by
 refine bE gT eBy bBy rfl rfl rfl bL aT (aA gT mxd ⟨[],bHr e.ix f.ix,rfl,rfl,rfl,λ_ _=>⟨(),trivial,aO rfl rfl trivial⟩⟩)
abbrev isG (n i:Nat):List (Nat×DV):=[(8,.c (iC i)),(0,.c (.s 0 n)),(1,.c (iC (0:Nat))),(2,.c (iC n)),(3,.c (.f fBy [] []))]
abbrev isB (ys:List EntM):BL:=[(82,4,ecs ys)]
theorem oW {ys:List EntM}:scB 1 (isB ys):=aB (jM _) bJ
abbrev bOu:FuncId:=242
theorem cBd:Ent Tryz.prog bOu:=aV func242 rfl kR
theorem cBe:Tryz.prog.funcs[bOu]? =some Tryz.f242:=func242
theorem bWk (ys:List EntM) (hn:ys.length<=4096):CtrF Tryz.prog bOu [true] [.c (.s 0 ys.length),.c (iC (0:Nat)),.c (iC (ys.length:Nat)),.c (.f fBy [] [])] (isB ys) [] (λzs:List EntM=>⟨.t [],isB zs,[],zs.Perm ys/\SrE zs ys.length⟩):=by
 refine gN gT cBd cBe rfl rfl rfl bL (aBl (fY ys)) (aA gT mxd ⟨(1:Nat),by rfl,?_⟩)
 show Sd _ _ _ _ _ _
 refine dR (λ_=>true) (λg:Nat×List EntM=>isG ys.length g.1) (λg=>isB g.2) (λ_=>[]) (λg=>(g.1<=ys.length\/g.1=1)/\g.2.length=ys.length/\g.2.Perm ys/\SrE g.2 g.1) (λg=>ys.length+1-g.1) λhM=>⟨cH hM (chg:=λg:Nat×List EntM=>isG ys.length g.1) (bls:=λg=>isB g.2) (fls:=λ_=>[]) (1,ys) ⟨.inr rfl,rfl,uQ _,λa b h1 h2=>by have h3:b<1:=h2;omega⟩ rfl rfl trivial ⟨rfl,rfl,rfl,rfl,rfl⟩ bL oW rfl,λ⟨i,xs⟩ ⟨hi,hl,hp,hs⟩=>aA gT mxd ⟨λh2=>aA gT mxd ?_,λh2=>aA gT mxd ?_⟩⟩
 all_goals
  replace hi:i<=ys.length\/i=1:=hi
  replace hl:xs.length=ys.length:=hl
  replace hp:xs.Perm ys:=hp
  replace hs:SrE xs i:=hs
 ·replace h2:(i:Int)<(ys.length:Nat):=h2
  have hin:i<ys.length:=by omega
  show Sd _ _ _ _ _ _
  refine dR (λ_=>true) (λg:Nat×List EntM=>(9,.c (iC g.1))::isG ys.length i) (λg=>isB g.2) (λ_=>[]) (λg=>g.1<=i/\g.2.length=ys.length/\g.2.Perm ys/\SnE g.2 i g.1) (λg=>g.1) λhM2=>⟨cH hM2 (chg:=λg:Nat×List EntM=>(9,.c (iC g.1))::isG ys.length i) (bls:=λg=>isB g.2) (fls:=λ_=>[]) (i,xs) ⟨aF _,hl,hp,SnE.start hs⟩ rfl rfl trivial ⟨rfl,rfl,rfl,rfl,rfl,rfl⟩ bL oW rfl,λ⟨j,zs⟩ ⟨hj,hzl,hzp,hz⟩=>aA gT mxd ?_⟩
  replace hj:j<=i:=hj
  replace hzl:zs.length=ys.length:=hzl
  replace hzp:zs.Perm ys:=hzp
  replace hz:SnE zs i j:=hz
  have hjl:j<zs.length:=by omega
  have hjl1:j-1<zs.length:=by omega
  refine⟨.seq (sq 14 (List.range 17)),by kernel_rfl,?_⟩
  have hjy:j<ys.length:=by omega
  have hj1:0<j->((j-1:Nat):Int)=(j:Int)-1:=λhq=>by omega
  refine⟨j,λhq=>⟨rfl,hjy,uB hjl⟩,(zs.getD j default).C,λhq=>aBu hjl,(j-1:Nat),λhq=>?_,j-1,λhq=>⟨rfl,by omega,uB hjl1⟩,(zs.getD (j-1) default).C,λhq=>aBu hjl1,λhq=>⟨[],cBc (zs.getD j default) (zs.getD (j-1) default),rfl,rfl,rfl,λ_ _=>⟨λh3=>aA gT mxd ?_,λh3=>aA gT mxd ?_⟩⟩,λhq=>?_⟩
  ·replace hq:((0:Nat):Int)<(j:Nat):=hq
   exact wi (by show((j-1:Nat):Int)=(j:Int)-1/\-9223372036854775808<=(j:Int)-1/\(j:Int)-1<=9223372036854775807;omega)
  ·replace hq:((0:Nat):Int)<(j:Nat):=hq
   have h0:0<j:=by omega
   have hlt:=aYz.1 h3
   have hjs:j-1<(zs.set j (zs.getD (j-1) default)).length:=by rw[bI];omega
   refine⟨.seq ((List.range 18).map λi=>(i,i==15||i==17)),by kernel_rfl,(j-1:Nat),?_,(j-1:Nat),?_,j-1,⟨rfl,by omega,uB hjl1⟩,_,aBu hjl1,j,⟨rfl,hjy,uB hjl⟩,_,aBu hjl,j,⟨rfl,hjy,uB hjl⟩,_,aPg hjl,j-1,⟨rfl,by omega,uB hjs⟩,_,aPg hjs,(j-1:Nat),?_,?_⟩
   ·exact wi (by show((j-1:Nat):Int)=(j:Int)-1/\-9223372036854775808<=(j:Int)-1/\(j:Int)-1<=9223372036854775807;omega)
   ·exact wi (by show((j-1:Nat):Int)=(j:Int)-1/\-9223372036854775808<=(j:Int)-1/\(j:Int)-1<=9223372036854775807;omega)
   ·exact wi (by show((j-1:Nat):Int)=(j:Int)-1/\-9223372036854775808<=(j:Int)-1/\(j:Int)-1<=9223372036854775807;omega)
   exact cH hM2 (chg:=λg:Nat×List EntM=>(9,.c (iC g.1))::isG ys.length i) (bls:=λg=>isB g.2) (fls:=λ_=>[]) (j-1,SwE zs j) ⟨⟨show j-1<=i by omega,bOt.trans hzl,(bFk hjl).trans hzp,hz.next oM hj h0 hlt⟩,show j-1<j by omega⟩ rfl rfl trivial ⟨rfl,rfl,rfl,rfl,rfl,rfl⟩ bL oW rfl
  ·replace hq:((0:Nat):Int)<(j:Nat):=hq
   refine⟨(i+1:Nat),wi,cH hM (chg:=λg:Nat×List EntM=>isG ys.length g.1) (bls:=λg=>isB g.2) (fls:=λ_=>[]) (i+1,zs) ⟨⟨.inl hin,hzl,hzp,hz.stop ?_⟩,show ys.length+1-(i+1)<ys.length+1-i by omega⟩ rfl rfl trivial ⟨rfl,rfl,rfl,rfl,rfl⟩ bL oW rfl⟩
   exact λhh=>h3 (aYz.2 hh.2)
  replace hq:¬((0:Nat):Int)<(j:Nat):=hq
  refine⟨(i+1:Nat),wi,cH hM (chg:=λg:Nat×List EntM=>isG ys.length g.1) (bls:=λg=>isB g.2) (fls:=λ_=>[]) (i+1,zs) ⟨⟨.inl hin,hzl,hzp,hz.stop ?_⟩,show ys.length+1-(i+1)<ys.length+1-i by omega⟩ rfl rfl trivial ⟨rfl,rfl,rfl,rfl,rfl⟩ bL oW rfl⟩
  exact λhh=>hq oM
 replace h2:¬(i:Int)<(ys.length:Nat):=h2
 exact⟨xs,⟨hp,λa b h3 h4=>hs a b h3 oM⟩,fC rfl rfl trivial bL oW rfl (aBl (fY xs))⟩
abbrev pqG (n:Nat):List (Nat×DV):=[(0,.c (.s 0 n)),(1,.c (iC (0:Nat))),(2,.c (iC n)),(4,.c (.f fBy [] []))]
abbrev bOv:FuncId:=222
theorem cBf:Ent Tryz.prog bOv:=aV func222 rfl kR
theorem cBg:Tryz.prog.funcs[bOv]? =some Tryz.f222:=func222
theorem bWl (ys:List EntM) (m:Nat) (hn:ys.length<=12):CtrF Tryz.prog bOv [true] [.c (.s 0 ys.length),.c (iC (0:Nat)),.c (iC (ys.length:Nat)),.c (iC m),.c (.f fBy [] [])] (isB ys) [] (λzs:List EntM=>⟨.t [],isB zs,[],zs.Perm ys/\SrE zs ys.length⟩):=by
 refine gN gT cBf cBg rfl rfl rfl bL (aBl (fY ys)) (aA gT mxd ?_)
 show Sd _ _ _ _ _ _
 refine dR (λ_=>true) (λ_:Unit=>pqG ys.length) (λ_=>isB ys) (λ_=>[]) (λ_=>True) (λ_=>0) λhM=>⟨cH hM (chg:=λ_:Unit=>pqG ys.length) (bls:=λ_=>isB ys) (fls:=λ_=>[]) () trivial rfl rfl trivial ⟨rfl,rfl,rfl,rfl⟩ bL oW rfl,λ_ _=>aA gT mxd ⟨(ys.length:Nat),?_,⟨λh2=>aA gT mxd ?_,λh2=>aA gT mxd ?_⟩⟩⟩
 ·exact wi (by show((ys.length:Nat):Int)=(ys.length:Nat)-((0:Nat):Int)/\-9223372036854775808<=((ys.length:Nat):Int)-((0:Nat):Int)/\((ys.length:Nat):Int)-((0:Nat):Int)<=9223372036854775807;omega)
 ·exact⟨none,[0],bWk ys oM,rfl,rfl,rfl,λzs hz=>⟨zs,hz,fC rfl rfl trivial bL oW rfl (aBl (fY zs))⟩⟩
 replace h2:¬((ys.length:Nat):Int)<=12:=h2
 omega
abbrev bOw:FuncId:=185
theorem cBh:Ent Tryz.prog bOw:=aV func185 rfl kR
theorem cBi:Tryz.prog.funcs[bOw]? =some Tryz.f185:=func185
theorem bWm (ys:List EntM) {m:Nat} (hm:ys.length=m) (hn:m<=12):CtrF Tryz.prog bOw [true] [.c (.s 0 m),.c (.f fBy [] [])] (isB ys) [] (λzs:List EntM=>⟨.t [],isB zs,[],zs.Perm ys/\SrE zs m⟩):=by
 obtain rfl:=hm
 have hw:IntKind.u64.wrap ((ys.length:Nat):Int)=(ys.length:Nat):=aAb oM
 refine gN gT cBh cBi rfl rfl rfl bL (aBl (fY ys)) (aA gT mxd ⟨((ys.length:Nat):Int),hw.symm,[],bWj (x:=(ys.length:Nat)) oM oM,rfl,rfl,rfl,λ_ _=>⟨none,[0],bWl ys _ hn,rfl,rfl,rfl,λzs hz=>⟨zs,hz,fC rfl rfl trivial bL oW rfl (aBl (fY zs))⟩⟩⟩)
structure PmL (p:List Int) (n:Nat):Prop where
 ln:p.length=n
 at':∀i,i<n->∃m:Nat,p.getD i 0=(m:Nat)/\m<n
 inj:∀i j,i<n->j<n->p.getD i 0=p.getD j 0->i=j
def bw (s:Nat->Bool):Nat->CV:=λj=>bif s j then .v (.bool true) else pS (.bool false)
theorem bOx {s:Nat->Bool} (n j:Nat) (_:j<n):fB (bw s j)=true:=by unfold bw;cases s j<;>rfl
theorem aZd {s:Nat->Bool} {n j:Nat} (h:j<n):kD (dX n (bw s)) (j*1) [.v (.bool true)]=dX n (bw (upd s j true))/\j*1+1<=(dX n (bw s)).length:=jN h λi _=>by
 by_cases e:i=j
 ·subst e;rw[if_pos rfl];unfold bw;rw[bP];rfl
 rw[if_neg e];unfold bw;rw[bK e]
def SnP (p:List Int) (k:Nat) (s:Nat->Bool):Prop:=∀j,s j=true->∃i,i<k/\p.getD i 0=(j:Nat)
theorem SnP.next {p:List Int} {k m:Nat} {s:Nat->Bool} (h:SnP p k s) (hm:p.getD k 0=(m:Nat)):SnP p (k+1) (upd s m true):=λj hj=>by
 by_cases e:j=m
 ·subst e;exact⟨k,bN _,hm⟩
 rw[bK e] at hj
 obtain⟨i,h1,h2⟩:=h j hj
 exact⟨i,by omega,h2⟩
theorem SnP.not {p:List Int} {k m n:Nat} {s:Nat->Bool} (h:SnP p k s) (hp:PmL p n) (hk:k<n) (hm:p.getD k 0=(m:Nat)):s m=false:=by
 cases e:s m with
 |false=>rfl
 |true=>
  obtain⟨i,h1,h2⟩:=h m e
  have:=hp.inj i k oM hk (h2.trans hm.symm)
  omega
abbrev ipG (g:Sl Int) (n k:Nat):List (Nat×DV):=[(11,.c (iC k)),(9,.c (jJ g)),(10,.c (iC n)),(0,.c (jJ g)),(3,.c (.s 0 n))]
abbrev ipB (n:Nat) (s:Nat->Bool):BL:=[(4,1,dX n (bw s))]
theorem aFy {n:Nat} {s:Nat->Bool}:scB 1 (ipB n s):=aB (cI (aR (bOx n))) bJ
abbrev aZe:FuncId:=184
theorem bWn:Ent Tryz.prog aZe:=aV func184 rfl kR
theorem bWo:Tryz.prog.funcs[aZe]? =some Tryz.f184:=func184
theorem bOy (g:Sl Int) {n:Nat} (hp:PmL g.l n) (hn:n<=4096):Ctr Tryz.prog aZe [] [.c (jJ g)] [] (λ_:Unit=>⟨.c (.v (.bool true)),[],True⟩):=by
 obtain rfl:g.l.length=n:=hp.ln
 refine bE gT bWn bWo rfl rfl rfl bL aT (aA gT mxd ⟨g.l.length,⟨rfl,rfl,by show 1*g.l.length<=_;omega,by simp only[maxLen];omega⟩,?_⟩)
 show Sd _ _ _ _ _ _
 refine iS tSd 0 (dX g.l.length (bw λ_=>false)) rfl (by rw[dF,cT]) (sT λ_ _=>LeC.refl _) ?_
 refine dR (λ_=>true) (λu:Nat×(Nat->Bool)=>ipG g g.l.length u.1) (λu=>ipB g.l.length u.2) (λ_=>[]) (λu=>u.1<=g.l.length/\SnP g.l u.1 u.2) (λu=>g.l.length-u.1) λhM=>⟨cH hM (chg:=λu:Nat×(Nat->Bool)=>ipG g g.l.length u.1) (bls:=λu=>ipB g.l.length u.2) (fls:=λ_=>[]) (0,λ_=>false) ⟨aC _,λj hj=>by cases hj⟩ rfl rfl trivial ⟨rfl,rfl,rfl,rfl,rfl⟩ bL aFy rfl,λ⟨k,s⟩ ⟨hk,hs⟩=>aA gT mxd ⟨λh2=>aA gT mxd ?_,λh2=>aA gT mxd ?_⟩⟩
 all_goals
  replace hk:k<=g.l.length:=hk
  replace hs:SnP g.l k s:=hs
 ·replace h2:(k:Int)<(g.l.length:Nat):=h2
  have hkl:k<g.l.length:=by omega
  obtain⟨m,hm,hmn⟩:=hp.at' k hkl
  have hf:=hs.not hp hkl hm
  have hc:(dX g.l.length (bw s))[m*1]? =some (pS (.bool false)):=(eH hmn).trans (by unfold bw;rw[hf];rfl)
  refine⟨k,⟨rfl,hkl⟩,m,λhq=>⟨hm,hmn,dG hmn⟩,_,λhq=>hc,?_⟩
  refine⟨λh3=>?_,λh3=>aA gT mxd ⟨m,⟨hm,hmn,dG hmn⟩,_,aZd hmn,(k+1:Nat),wi,cH hM (chg:=λu:Nat×(Nat->Bool)=>ipG g g.l.length u.1) (bls:=λu=>ipB g.l.length u.2) (fls:=λ_=>[]) (k+1,upd s m true) ⟨⟨hkl,hs.next hm⟩,show g.l.length-(k+1)<g.l.length-k by omega⟩ rfl rfl trivial ⟨rfl,rfl,rfl,rfl,rfl⟩ bL aFy rfl⟩⟩
  replace h3:(g.l.getD k 0<0\/((g.l.length:Nat):Int)<=g.l.getD k 0)\/(false=true):=h3
  rcases h3 with h3|h3
  ·omega
  cases h3
 exact aA gT mxd ⟨(),trivial,aO rfl rfl trivial⟩
theorem aIp:∀(ys:List EntM) (k:Nat) (z:Int),k<ys.length->kD (ecs ys) (k*4) [iC z]=ecs (ys.set k ⟨z,(ys.getD k default).v⟩)/\k*4+1<=(ecs ys).length
 |[],k,z,h=>absurd h (aM _)
 |e::ys,0,z,h=>⟨rfl,by rw[fU];simp;omega⟩
 |e::ys,k+1,z,h=>by
  obtain⟨h1,h2⟩:=aIp ys k z (by simpa using h)
  refine⟨?_,by rw[fU];simp at h;simp;omega⟩
  show kD (e.C++ecs ys) ((k+1)*4) [iC z]=e.C++ecs (ys.set k ⟨z,(ys.getD k default).v⟩)
  rw[<-h1]
  unfold kD
  have e4:(k+1)*4=e.C.length+k*4:=by rw[eA,gC];rfl
  rw[e4,List.take_length_add_append,gO,List.drop_length_add_append,cL]
def reE (f:EntM->EntM) (ys:List EntM) (k:Nat):List EntM:=(ys.take k).map f++ys.drop k
theorem aPi {f:EntM->EntM} {ys:List EntM} {k:Nat} (h:k<=ys.length):(reE f ys k).length=ys.length:=by unfold reE;simp;omega
theorem aZf {f:EntM->EntM} {ys:List EntM} {k:Nat} (h:k<ys.length):(reE f ys k).getD k default=ys.getD k default:=by
 unfold reE
 rw[aZ,bV (by simp;omega),dI,aZ]
 simp only[aU,bD]
 congr 2
 omega
theorem bFl {f:EntM->EntM} {ys:List EntM} {k:Nat} (h:k<ys.length):(reE f ys k).set k (f (ys.getD k default))=reE f ys (k+1):=by
 unfold reE
 have h1:((ys.take k).map f).length=k:=by simp;omega
 rw[gK _ _ oM,h1,jY,dV h,List.set_cons_zero,cS,aE h,gd h,cJ,cL]
 rfl
theorem bFm {f:EntM->EntM} {ys:List EntM}:reE f ys ys.length=ys.map f:=by unfold reE;simp
theorem bFn {ys zs:List EntM} (h:zs.Perm ys):∀{es:List En},Ek ys es->∃rs:List En,Ek zs rs/\rs.Perm es:=by
 have cons:∀{e:EntM} {ys:List EntM} {z:En} {es:List En},Ek (e::ys) (z::es)↔(e.ix=z.1/\Cr e.v z.2)/\Ek ys es:=λ{e ys z es}=>by
  constructor
  ·intro h
   refine⟨h.e 0 (by simp),by simpa using h.ln,λk hk=>h.e (k+1) (by simpa using hk)⟩
  rintro⟨h1,h2⟩
  refine⟨by simpa using h2.ln,λk hk=>?_⟩
  match k,hk with
  |0,_=>exact h1
  |k+1,hk=>exact h2.e k (by simpa using hk)
 induction h with
 |nil=>intro es h;exact⟨es,h,uQ _⟩
 |cons e hp ih=>
  intro es h
  match es,h with
  |[],h=>have:=h.ln;simp at this
  |z::es,h=>
   obtain⟨h1,h2⟩:=cons.1 h
   obtain⟨rs,h3,h4⟩:=ih h2
   exact⟨z::rs,cons.2 ⟨h1,h3⟩,h4.cons z⟩
 |swap a b l=>
  intro es h
  match es,h with
  |[],h=>have:=h.ln;simp at this
  |[z],h=>have:=h.ln;simp at this
  |z::z'::es,h=>
   obtain⟨h1,h2⟩:=cons.1 h
   obtain⟨h3,h4⟩:=cons.1 h2
   exact⟨z'::z::es,cons.2 ⟨h3,cons.2 ⟨h1,h4⟩⟩,List.Perm.swap _ _ _⟩
 |trans _ _ ih1 ih2=>
  intro es h
  obtain⟨rs,h1,h2⟩:=ih2 h
  obtain⟨ts,h3,h4⟩:=ih1 h1
  exact⟨ts,h3,h4.trans h2⟩
def rnE (p:List Int) (e:En):En:=(p.getD e.1.toNat 0,e.2)
def rnM (p:List Int) (e:EntM):EntM:=⟨p.getD e.ix.toNat 0,e.v⟩
theorem bOz {ys:List EntM} {es:List En} {p:List Int} (h:Ek ys es):Ek (ys.map (rnM p)) (es.map (rnE p)):=⟨by rw[aU,aU];exact h.ln,λk hk=>by
 rw[aU] at hk
 have hk':k<ys.length:=by rw[h.ln];exact hk
 have h1:=h.e k hk
 rw[gd (by rwa [aU]),gd (by rwa [aU]),sA,sA,<-gd (d:=default) hk,<-gd (d:=default) hk']
 exact⟨by show p.getD _ 0=p.getD _ 0;rw[h1.1],h1.2⟩⟩
theorem bPa {zs:List EntM} {rs es:List En} {p:List Int} {n:Nat} (hz:Ek zs rs) (hs:SrE zs zs.length) (hp:rs.Perm (es.map (rnE p))) (ho:VOk es (n:Nat)) (hP:PmL p n):Asc rs:=by
 have hnd:(rs.map λe=>e.1).Nodup:=by
  refine((hp.map λe=>e.1).nodup_iff).2 ?_
  rw[kB,cQ,gE]
  refine ho.1.imp_of_mem λ{a b} ha hb hab he=>?_
  have h1:=ho.2 a ha
  have h2:=ho.2 b hb
  have h3:a.1<b.1:=hab
  have:=hP.inj a.1.toNat b.1.toNat oM oM he
  omega
 refine fI.2 λi j hi hj hij=>?_
 have h1:=hs i j hij (by rw[hz.ln];exact hj)
 have hi':=hz.e i hi
 have hj':=hz.e j hj
 rw[hi'.1,hj'.1,gd hi,gd hj] at h1
 have h2:rs[i].1≠rs[j].1:=λe=>by
  have:=(cQ.1 hnd)
  rw[gE,fI] at this
  exact this i j hi hj hij e
 show rs[i].1<rs[j].1
 omega
theorem _root_.Go.Vy.CtrF.clo {P:Program} {q:FuncId} {cl:List Bool} {al:List DV} {fl:List Fam} {σ:Type} {R:σ->OutF} (h:CtrF P q [] al [] fl R) (hc:∀g,(R g).C->ClB cl (R g).bl):CtrF P q cl al [] fl R:=⟨h.ent,λi T es l hi=>(by cases hi),λρ w vals hv hD hF=>(h.run ρ w vals hv hD hF).mono λe w' ⟨v,he,g,ρ',c1,c2,c3,_,c5⟩=>⟨v,he,g,ρ',c1,c2,c3,hc g c1,c5⟩⟩
abbrev bPb:FuncId:=105
theorem cBj:Ent Tryz.prog bPb:=aV func105 rfl kR
theorem cBk:Tryz.prog.funcs[bPb]? =some Tryz.f105:=func105
theorem bFo (x:Sl EntM) {es:List En} {B:Nat} (h:Ev x.l es B) (hb:rbE es B) (h1:1<=B) (hB:B<=4398046511104) (ha:Asc es) (hz:aAh es) (hn:es.length<=4096):Ctr Tryz.prog bPb [true] [.c (bR x)] [] (λys:List EntM=>⟨.c (.s 0 ys.length),isB ys,Ek ys es⟩):=by
 have hm:=(aXe x dK (es:=es) (fs:=[]) (op:=λa _=>a) (q:=168) h ⟨rfl,λk hk=>absurd hk (aM _)⟩ hb (λe he=>absurd he dP) h1 ha List.Pairwise.nil hn (aC _) rfl (λa b h _=>h.le hB) (λu v {a b} hu _ _ _=>bHj u v (hu.le hB))).args (al':=[.c (bR x),.c (.v (.slice none 0 0)),.c (.f 168 [] [])]) λρ n w vals hv=>(by
  match vals,hv with
  |[v0,v1,v2],⟨h0,h1,h2,h3⟩=>exact⟨h0,.c (aCy ρ n w v1 h1.inv_c),h2,h3⟩)
 replace hm:=hm.clo (cl:=[true]) λys _=>aBl (fY ys)
 refine bE gT cBj cBk rfl rfl rfl bL (λi T es l hi=>by cases hi) (aA gT mxd ⟨[],aFk x h ha,rfl,rfl,rfl,λ_ _=>⟨[],hm,rfl,rfl,rfl,λg ⟨rs,h2,h3⟩=>⟨g,?_,jW rfl rfl bL oW rfl (aBl (fY g))⟩⟩⟩)
 have e:rs=es:=rO rs es h3.a ha h3.z hz h3.g
 rw[<-e];exact h2
abbrev prG (g:Sl Int) (m k:Nat):List (Nat×DV):=[(16,.c (iC k)),(14,.c (.s 0 m)),(15,.c (iC m)),(6,.c (.s 0 m)),(1,.c (jJ g))]
abbrev aZg:FuncId:=117
theorem bWp:Ent Tryz.prog aZg:=aV func117 rfl kR
theorem bWq:Tryz.prog.funcs[aZg]? =some Tryz.f117:=func117
theorem bPc (x:Sl EntM) (g:Sl Int) {es:List En} {B n:Nat} (h:Ek x.l es) (hb:rbE es B) (h1:1<=B) (hB:B<=4398046511104) (ho:VOk es (n:Nat)) (hn:n<=12) (hg:PmL g.l n):Ctr Tryz.prog aZg [] [.c (bR x),.c (jJ g)] [] (λy:Sl EntM=>⟨.t [.c (bR y),.c (.v (.bool true))],[],∃rs,Ek y.l rs/\Asc rs/\rs.Perm (es.map (rnE g.l))⟩):=by
 have hel:es.length<=n:=kO ho
 have hgl:=hg.ln
 refine bE gT bWp bWq rfl rfl rfl bL aT (aA gT mxd ⟨[],bOy g hg oM,rfl,rfl,rfl,λ_ _=>⟨[],bFo x (h.ev hb) hb h1 hB ho.1 (λe he=>(ho.2 e he).2.2) oM,rfl,rfl,rfl,λys hys=>?_⟩⟩)
 replace hys:Ek ys es:=hys
 have hyl:=hys.ln
 show Sd _ _ _ _ _ _
 refine dR (λ_=>true) (λk:Nat=>prG g ys.length k) (λk=>isB (reE (rnM g.l) ys k)) (λ_=>[]) (λk=>k<=ys.length) (λk=>ys.length-k) λhM=>⟨cH hM (chg:=λk:Nat=>prG g ys.length k) (bls:=λk=>isB (reE (rnM g.l) ys k)) (fls:=λ_=>[]) 0 (aC _) rfl rfl trivial ⟨rfl,rfl,rfl,rfl,rfl⟩ bL oW rfl,λk hk=>aA gT mxd ⟨λh2=>aA gT mxd ?_,λh2=>aA gT mxd ?_⟩⟩
 all_goals
  replace hk:k<=ys.length:=hk
 ·replace h2:(k:Int)<(ys.length:Nat):=h2
  have hkl:k<ys.length:=by omega
  have hr:=aPi (f:=rnM g.l) hk
  have hkr:k<(reE (rnM g.l) ys k).length:=by omega
  have he:=hys.e k oM
  have hv:=ho.2 _ (gW (l:=es) (k:=k) oM)
  obtain⟨m,hm⟩:∃m:Nat,(ys.getD k default).ix=(m:Nat):=⟨(ys.getD k default).ix.toNat,by omega⟩
  have hmn:m<n:=by omega
  refine⟨k,⟨rfl,hkl,uB hkr⟩,_,aBu hkr,?_⟩
  rw[aZf hkl]
  refine⟨λh3=>?_,λh3=>aA gT mxd ?_⟩
  ·replace h3:(ys.getD k default).ix<0\/((g.l.length:Nat):Int)<=(ys.getD k default).ix:=h3
   omega
  have hst:kD (ecs (reE (rnM g.l) ys k)) (k*4) [iC (g.l.getD m 0)]=ecs (reE (rnM g.l) ys (k+1))/\k*4+1<=(ecs (reE (rnM g.l) ys k)).length:=by
   obtain⟨e1,e2⟩:=aIp (reE (rnM g.l) ys k) k (g.l.getD m 0) hkr
   refine⟨e1.trans (congrArg ecs ?_),e2⟩
   rw[<-bFl hkl,aZf hkl]
   unfold rnM
   rw[hm]
   rfl
  exact⟨m,⟨hm,by omega⟩,k,⟨rfl,hkl,uB hkr⟩,_,hst,(k+1:Nat),wi,cH hM (chg:=λk:Nat=>prG g ys.length k) (bls:=λk=>isB (reE (rnM g.l) ys k)) (fls:=λ_=>[]) (k+1) ⟨hkl,show ys.length-(k+1)<ys.length-k by omega⟩ rfl rfl trivial ⟨rfl,rfl,rfl,rfl,rfl⟩ bL oW rfl⟩
 replace h2:¬(k:Int)<(ys.length:Nat):=h2
 obtain rfl:k=ys.length:=by omega
 have hr:=aPi (f:=rnM g.l) (aF ys.length)
 show Sd _ _ _ _ _ _
 refine Sd.sq (aA gT mxd ⟨none,[0],bWm _ hr oM,rfl,rfl,rfl,λzs hz=>aKa 6 0 (λj=>(zs.getD j default).C) rfl rfl (λj hj=>?_) ?_ bL (fY zs) bL λA c _ _=>aA gT mxd ?_⟩)
 all_goals
  obtain⟨hz1,hz2⟩:=hz
  have hzl:zs.length=ys.length:=hz1.length_eq.trans hr
 ·exact pV zs j oM
 ·rw[fU,hzl]
 rw[bFm] at hz1
 obtain⟨rs,r1,r2⟩:=bFn hz1 (bOz hys)
 exact⟨⟨A,c,zs⟩,⟨rs,r1,bPa r1 (hzl▸hz2) r2 ho hg,r2⟩,aO ⟨congrArg (λm=>CV.r A m c 4 λj=>(zs.getD j default).C) hzl.symm,rfl⟩ rfl trivial⟩
def fA (f:Nat->Rat):Nat->Rat
 |0=>0
 |n+1=>fA f n+f n
theorem eF {f g:Nat->Rat}:∀{n:Nat},(∀j,j<n->f j=g j)->fA f n=fA g n
 |0,_=>rfl
 |n+1,h=>by
  show fA f n+f n=fA g n+g n
  rw[eF λj hj=>h j (gD hj),h n (bN n)]
theorem nB {f g:Nat->Rat} {q:Rat}:∀{n:Nat},fA (λj=>f j+q*g j) n=fA f n+q*fA g n
 |0=>by show(0:Rat)=0+q*0;rw[eE,cG]
 |n+1=>by
  show fA (λj=>f j+q*g j) n+(f n+q*g n)=fA f n+f n+q*(fA g n+g n)
  rw[nB];grind
theorem mU:∀{n:Nat} {f:Nat->Rat},(∀j,j<n->f j=0)->fA f n=0
 |0,_,_=>rfl
 |n+1,f,h=>by
  show fA f n+f n=0
  rw[mU λj hj=>h j (gD hj),h n (bN n),cG]
theorem xP {f:Nat->Rat} {m:Nat}:∀{n:Nat},m<n->(∀j,j≠m->f j=0)->fA f n=f m
 |0,h,_=>absurd h (aM _)
 |n+1,h,h0=>by
  show fA f n+f n=f m
  by_cases e:m=n
  ·subst e;rw[mU λj hj=>h0 j oM,fN]
  rw[xP oM h0,h0 n (fG e),cG]
def dtn (n:Nat) (es:List En) (x:Nat->Rat):Rat:=fA (λj=>Vm.get es (j:Nat)*x j) n
theorem bFp {n:Nat} {rs es fs:List En} {q:Rat} {x:Nat->Rat} (h:∀j:Int,Vm.get rs j=Vm.get es j+q*Vm.get fs j):dtn n rs x=dtn n es x+q*dtn n fs x:=by
 unfold dtn
 rw[<-nB]
 exact eF λj _=>by rw[h];grind
def dtl:List En->(Nat->Rat)->Rat
 |[],_=>0
 |e::es,x=>e.2*x e.1.toNat+dtl es x
theorem aPj {x:Nat->Rat}:∀{es fs:List En},dtl (es++fs) x=dtl es x+dtl fs x
 |[],fs=>by show dtl fs x=0+dtl fs x;rw[fN]
 |e::es,fs=>by
  show e.2*x e.1.toNat+dtl (es++fs) x=e.2*x e.1.toNat+dtl es x+dtl fs x
  rw[aPj,mG]
theorem uD {x:Nat->Rat} {es:List En} {e:En}:dtl (es++[e]) x=dtl es x+e.2*x e.1.toNat:=by
 rw[aPj];show _+(_+(0:Rat))=_;rw[cG]
theorem lJ {x y:Nat->Rat}:∀{es:List En},(∀e∈es,x e.1.toNat=y e.1.toNat)->dtl es x=dtl es y
 |[],_=>rfl
 |e::es,h=>by
  show e.2*x e.1.toNat+dtl es x=e.2*y e.1.toNat+dtl es y
  rw[h e (.head _),lJ λe' he=>h e' (.tail _ he)]
theorem aZh {x:Nat->Rat} {es fs:List En} (h:es.Perm fs):dtl es x=dtl fs x:=by
 induction h with
 |nil=>rfl
 |cons e _ ih=>show _+_=_+_;rw[ih]
 |swap a b l=>show _+(_+_)=_+(_+_);grind
 |trans _ _ h1 h2=>exact h1.trans h2
theorem mD (e:En) (es:List En) (j:Int):Vm.get (e::es) j=(if e.1=j then e.2 else 0)+Vm.get es j:=by
 rw[show e::es=[e]++es from rfl,mL]
 congr 1
 by_cases h:e.1=j
 ·subst h;rw[if_pos rfl,iJ (dT _ _)]
 rw[if_neg h];exact lS λe' he=>by rw[aI.1 he];exact h
theorem zV {n:Nat} {x:Nat->Rat}:∀{es:List En},(∀e∈es,0<=e.1/\e.1<(n:Nat))->dtl es x=dtn n es x
 |[],_=>(mU λj _=>by show(0:Rat)*x j=0;rw[eS]).symm
 |e::es,h=>by
  show e.2*x e.1.toNat+dtl es x=_
  rw[zV λe' he=>h e' (.tail _ he)]
  obtain⟨h1,h2⟩:=h e (.head _)
  have hs:e.2*x e.1.toNat=fA (λj=>(if e.1=(j:Nat) then e.2 else 0)*x j) n:=by
   rw[xP (m:=e.1.toNat) oM λj hj=>by rw[if_neg oM,eS]]
   rw[if_pos oM]
  rw[hs]
  unfold dtn
  have:=nB (f:=λj=>(if e.1=(j:Nat) then e.2 else 0)*x j) (g:=λj=>Vm.get es (j:Nat)*x j) (q:=1) (n:=n)
  rw[uR] at this
  rw[<-this]
  exact eF λj _=>by rw[mD];grind
theorem VOk.rg {es:List En} {n:Nat} (h:VOk es (n:Nat)):∀e∈es,0<=e.1/\e.1<(n:Nat):=λe he=>⟨(h.2 e he).1,(h.2 e he).2.1⟩
structure Elim (M:Nat->List En) (n k:Nat) (rw cl:Nat->Nat) (A:List Int) (es lw:Nat->List En):Prop where
 kn:A.length+k=n
 nd:A.Nodup
 mem:∀c:Int,c∈A↔∃j:Nat,c=(j:Nat)/\j<n/\∀i,i<k->cl i≠j
 rlt:∀j,j<k->rw j<n
 rinj:∀i j,i<k->j<k->rw i=rw j->i=j
 clt:∀j,j<k->cl j<n
 cinj:∀i j,i<k->j<k->cl i=cl j->i=j
 piv:∀j,j<k->Vm.get (es (rw j)) (cl j:Nat)≠0
 zl:∀j i,j<i->i<k->Vm.get (es (rw i)) (cl j:Nat)=0
 zu:∀j i,j<k->i<n->(∀t,t<k->rw t≠i)->Vm.get (es i) (cl j:Nat)=0
 lok:∀i,i<n->VOk (lw i) (k:Nat)
 lus:∀j,j<k->VOk (lw (rw j)) (j:Nat)
 sum:∀i,i<n->∀x,dtn n (M i) x=dtn n (es i) x+dtl (lw i) λj=>dtn n (es (rw j)) x
theorem Elim.start (M:Nat->List En) (n:Nat) (rw cl:Nat->Nat):Elim M n 0 rw cl (aL n n) M λ_=>[]:=by
 rw[aYn]
 refine⟨by simp,?_,λc=>?_,λj h=>absurd h (aM _),λi j h=>absurd h (aM _),λj h=>absurd h (aM _),λi j h=>absurd h (aM _),λj h=>absurd h (aM _),λj i _ h=>absurd h (aM _),λj i h=>absurd h (aM _),λi _=>⟨List.Pairwise.nil,λe he=>by cases he⟩,λj h=>absurd h (aM _),λi _ x=>?_⟩
 ·rw[cQ,gE]
  exact(cQ.1 nX).imp λh e=>h (kI e)
 ·rw[bT]
  constructor
  ·rintro⟨j,hj,rfl⟩;exact⟨j,rfl,cV.1 hj,λi h=>absurd h (aM _)⟩
  rintro⟨j,rfl,hj,_⟩;exact⟨j,cV.2 hj,rfl⟩
 show _=_+(0:Rat);rw[cG]
theorem aRf {A:List Int} {p:Nat} {c:Int} (hp:p<A.length) (hc:A.getD p 0=c):A=A.take p++c::A.drop (p+1)/\A.eraseIdx p=A.take p++A.drop (p+1):=by
 refine⟨?_,nN A p⟩
 rw[<-hc,gd hp,<-dV hp,dE]
theorem Elim.next {M:Nat->List En} {n k r c p:Nat} {rw cl:Nat->Nat} {A:List Int} {es lw es' lw':Nat->List En} {P:Nat->Prop} (h:Elim M n k rw cl A es lw) (hr:r<n) (hu:∀t,t<k->rw t≠r) (hp:p<A.length) (hc:A.getD p 0=(c:Nat)) (hv:Vm.get (es r) (c:Nat)≠0) (hS:StR r c k es lw es' lw' P) (hP:∀i,P i↔(i<n/\¬(∃t,t<k/\rw t=i)/\i≠r)/\Vm.get (es i) (c:Nat)≠0):Elim M n (k+1) (upd rw k r) (upd cl k c) (A.eraseIdx p) es' lw':=by
 obtain⟨hA1,hA2⟩:=aRf hp hc
 have hcA:(c:Int)∈A:=by rw[hA1];exact cX _ (.head _)
 obtain⟨c',hcc,hcn,hcf⟩:=(h.mem _).1 hcA
 obtain rfl:c=c':=kI hcc
 have nr:¬P r:=λhh=>((hP r).1 hh).1.2.2 rfl
 have er:=(hS.no r nr).1
 have nus:∀t,t<k->¬P (rw t):=λt ht hh=>((hP _).1 hh).1.2.1 ⟨t,ht,rfl⟩
 have ur:∀t,t<k->upd rw k r t=rw t:=λt ht=>bK oM
 have uc:∀t,t<k->upd cl k c t=cl t:=λt ht=>bK oM
 have ee:∀t,t<k+1->es' (upd rw k r t)=es (upd rw k r t):=λt ht=>by
  by_cases e:t=k
  ·subst e;rw[bP];exact er
  rw[ur t oM];exact(hS.no _ (nus t oM)).1
 have zr:∀j,j<k->Vm.get (es r) (cl j:Nat)=0:=λj hj=>h.zu j r hj hr hu
 refine⟨?_,?_,λc1=>?_,λj hj=>?_,λi j hi hj he=>?_,λj hj=>?_,λi j hi hj he=>?_,λj hj=>?_,λj i hj hi=>?_,λj i hj hi hn=>?_,λi hi=>?_,λj hj=>?_,λi hi x=>?_⟩
 ·rw[qH hp];have:=h.kn;omega
 ·exact h.nd.sublist (List.eraseIdx_sublist _ _)
 ·have hnd:=h.nd
  rw[hA1] at hnd
  have hcn':(c:Int)∉A.take p++A.drop (p+1):=λhh=>by
   have:=(List.perm_middle.nodup_iff).1 hnd
   exact(iV.1 this).1 hh
  have hme:c1∈A.eraseIdx p↔c1∈A/\c1≠(c:Nat):=by
   rw[hA2]
   constructor
   ·intro h1
    refine⟨?_,λe=>hcn' (e▸h1)⟩
    rw[hA1]
    rcases aQ.1 h1 with h1|h1
    ·exact cP _ h1
    exact cX _ (.tail _ h1)
   rintro⟨h1,h2⟩
   rw[hA1] at h1
   rcases aQ.1 h1 with h1|h1
   ·exact cP _ h1
   rcases aW.1 h1 with h1|h1
   ·exact absurd h1 h2
   exact cX _ h1
  rw[hme,h.mem]
  constructor
  ·rintro⟨⟨j,rfl,h1,h2⟩,h3⟩
   refine⟨j,rfl,h1,λi hi=>?_⟩
   by_cases e:i=k
   ·subst e;rw[bP];exact λe=>h3 (by rw[e])
   rw[uc i oM];exact h2 i oM
  rintro⟨j,rfl,h1,h2⟩
  refine⟨⟨j,rfl,h1,λi hi=>by rw[<-uc i hi];exact h2 i oM⟩,λe=>?_⟩
  have:=h2 k oM
  rw[bP] at this
  exact this (kI e).symm
 ·by_cases e:j=k
  ·subst e;rw[bP];exact hr
  rw[ur j oM];exact h.rlt j oM
 ·by_cases e1:i=k
  ·by_cases e2:j=k
   ·omega
   subst e1;rw[bP,ur j oM] at he;exact absurd he.symm (hu j oM)
  by_cases e2:j=k
  ·subst e2;rw[bP,ur i oM] at he;exact absurd he (hu i oM)
  rw[ur i oM,ur j oM] at he;exact h.rinj i j oM oM he
 ·by_cases e:j=k
  ·subst e;rw[bP];exact hcn
  rw[uc j oM];exact h.clt j oM
 ·by_cases e1:i=k
  ·by_cases e2:j=k
   ·omega
   subst e1;rw[bP,uc j oM] at he;exact absurd he.symm (hcf j oM)
  by_cases e2:j=k
  ·subst e2;rw[bP,uc i oM] at he;exact absurd he (hcf i oM)
  rw[uc i oM,uc j oM] at he;exact h.cinj i j oM oM he
 ·rw[ee j hj]
  by_cases e:j=k
  ·subst e;rw[bP,bP];exact hv
  rw[ur j oM,uc j oM];exact h.piv j oM
 ·rw[ee i hi,uc j oM]
  by_cases e:i=k
  ·subst e;rw[bP];exact zr j oM
  rw[ur i oM];exact h.zl j i hj oM
 ·have hnu:∀t,t<k->rw t≠i:=λt ht=>by rw[<-ur t ht];exact hn t oM
  have hnr:i≠r:=λe=>by
   have:=hn k oM
   rw[bP] at this
   exact this e.symm
  by_cases e:j=k
  ·subst e
   rw[bP]
   by_cases hPi:P i
   ·rw[(hS.yes i hPi).1]
    unfold fac
    rw[Rat.neg_mul,oD,mO _ hv,kZ,<-iO,Rat.sub_self]
   rw[(hS.no i hPi).1]
   exact bA λhh=>hPi ((hP i).2 ⟨⟨hi,λ⟨t,ht,e⟩=>hnu t ht e,hnr⟩,hh⟩)
  rw[uc j oM]
  have h0:=h.zu j i oM hi hnu
  by_cases hPi:P i
  ·rw[(hS.yes i hPi).1,h0,zr j oM,eE,cG]
  rw[(hS.no i hPi).1];exact h0
 ·have h0:=h.lok i hi
  by_cases hPi:P i
  ·rw[(hS.yes i hPi).2]
   refine⟨eP.2 ⟨h0.1,dT _ _,λa ha b hb=>?_⟩,λe he=>?_⟩
   ·rw[aI.1 hb]
    exact(h0.2 a ha).2.1
   rcases aQ.1 he with he|he
   ·have:=h0.2 e he;exact⟨this.1,by omega,this.2.2⟩
   rw[aI.1 he]
   refine⟨by show(0:Int)<=(k:Nat);omega,by show(k:Int)<((k+1:Nat):Int);omega,?_⟩
   show fac es r c i≠0
   unfold fac
   intro hh
   rcases pB.1 hh with hh|hh
   ·exact((hP i).1 hPi).2 hh
   have h9:=mO _ hv
   rw[hh,eS] at h9
   exact absurd h9 dC
  rw[(hS.no i hPi).2]
  exact⟨h0.1,λe he=>by have:=h0.2 e he;exact⟨this.1,by omega,this.2.2⟩⟩
 ·by_cases e:j=k
  ·subst e
   rw[bP,(hS.no r nr).2]
   exact h.lok r hr
  rw[ur j oM,(hS.no _ (nus j oM)).2];exact h.lus j oM
 have h0:=h.sum i hi x
 have hl:∀l:List En,VOk l (k:Nat)->dtl l (λj=>dtn n (es' (upd rw k r j)) x)=dtl l λj=>dtn n (es (rw j)) x:=λl hl=>lJ λe he=>by
  have:=hl.2 e he
  have ht:e.1.toNat<k:=by omega
  show dtn n (es' (upd rw k r e.1.toNat)) x=dtn n (es (rw e.1.toNat)) x
  rw[ee _ oM,ur _ ht]
 by_cases hPi:P i
 ·rw[(hS.yes i hPi).2,uD,hl _ (h.lok i hi),bFp (hS.yes i hPi).1,h0]
  show _=_+(_+fac es r c i*dtn n (es' (upd rw k r (k:Nat))) x)
  rw[bP,er]
  grind
 rw[(hS.no i hPi).1,(hS.no i hPi).2,hl _ (h.lok i hi),h0]
theorem aPk {es:List En} {x:Nat->Rat} {j:Nat} {v:Rat}:∀{n:Nat},j<n->dtn n es (upd x j v)=dtn n es x+Vm.get es (j:Nat)*(v-x j)
 |0,h=>absurd h (aM _)
 |n+1,h=>by
  show dtn n es (upd x j v)+Vm.get es (n:Nat)*upd x j v n=dtn n es x+Vm.get es (n:Nat)*x n+Vm.get es (j:Nat)*(v-x j)
  by_cases e:j=n
  ·subst e
   have h1:dtn j es (upd x j v)=dtn j es x:=eF λi hi=>by rw[bK oM]
   rw[bP,h1];grind
  rw[aPk oM,bK (fG e)];grind
def Ker (M:Nat->List En) (n:Nat):Prop:=∃x:Nat->Rat,(∃i,i<n/\x i≠0)/\∀k,k<n->dtn n (M k) x=0
theorem bHu {x:Nat->Rat}:∀{es:List En},(∀e∈es,x e.1.toNat=0)->dtl es x=0
 |[],_=>rfl
 |e::es,h=>by
  show e.2*x e.1.toNat+dtl es x=0
  rw[h e (.head _),bHu λe' he=>h e' (.tail _ he),eE,cG]
theorem Elim.ker {M:Nat->List En} {n k c:Nat} {rw cl:Nat->Nat} {A:List Int} {es lw:Nat->List En} (h:Elim M n k rw cl A es lw) (hcA:(c:Int)∈A) (hz:∀i,i<n->(∀t,t<k->rw t≠i)->Vm.get (es i) (c:Nat)=0):Ker M n:=by
 obtain⟨c',hc',hcn,hcf⟩:=(h.mem _).1 hcA
 obtain rfl:c=c':=kI hc'
 have key:∀m,m<=k->∃x:Nat->Rat,x c=1/\(∀j,j≠c->(∀t,k-m<=t->t<k->cl t≠j)->x j=0)/\∀t,k-m<=t->t<k->dtn n (es (rw t)) x=0:=λm=>by
  induction m with
  |zero=>exact λ_=>⟨λj=>if j=c then 1 else 0,if_pos rfl,λj hj _=>if_neg hj,λt h1 h2=>by omega⟩
  |succ m ih=>
   intro hm
   obtain⟨x,x1,x2,x3⟩:=ih oM
   obtain⟨t0,ht0⟩:∃t0,t0=k-(m+1):=⟨_,rfl⟩
   have htk:t0<k:=by omega
   have hp:=h.piv t0 htk
   have hcc:=hcf t0 htk
   have hcl:=h.clt t0 htk
   have h0:x (cl t0)=0:=x2 _ hcc λt h1 h2 e=>by
    have:=h.cinj t t0 h2 htk e
    omega
   refine⟨upd x (cl t0) (-(dtn n (es (rw t0)) x/Vm.get (es (rw t0)) (cl t0:Nat))),by rw[bK (fG hcc)];exact x1,λj hj ht=>?_,λt h1 h2=>?_⟩
   ·rw[bK (fG (ht t0 oM htk))]
    exact x2 j hj λt h1 h2=>ht t oM h2
   rw[aPk hcl,h0]
   by_cases e:t=t0
   ·subst e
    rw[iE]
    have h9:=iP _ hp
    generalize Vm.get (es (rw t)) (cl t:Nat)=p at h9 hp
    generalize dtn n (es (rw t)) x=D
    have:D+p*(-(D*p⁻¹)-0)=D-D*(p*p⁻¹):=by grind
    rw[this,h9,kZ,Rat.sub_self]
   rw[x3 t oM h2,h.zl t0 t oM h2,eS,cG]
 obtain⟨x,x1,x2,x3⟩:=key k (aF _)
 rw[jY] at x2 x3
 have hE:∀i,i<n->dtn n (es i) x=0:=λi hi=>by
  by_cases hu:∃t,t<k/\rw t=i
  ·obtain⟨t,ht,rfl⟩:=hu
   exact x3 t (aC _) ht
  have hu':∀t,t<k->rw t≠i:=λt ht e=>hu ⟨t,ht,e⟩
  refine mU λj hj=>?_
  by_cases e:j=c
  ·subst e;rw[hz i hi hu',eS]
  by_cases hcl:∃t,t<k/\cl t=j
  ·obtain⟨t,ht,rfl⟩:=hcl
   rw[h.zu t i ht hi hu',eS]
  rw[x2 j e λt _ ht e2=>hcl ⟨t,ht,e2⟩,eE]
 refine⟨x,⟨c,hcn,by rw[x1];decide⟩,λi hi=>?_⟩
 rw[h.sum i hi x,hE i hi,bHu λe he=>?_,cG]
 have:=(h.lok i hi).2 e he
 exact hE _ (h.rlt _ oM)
theorem aZi {p:List Int} {n c:Nat} (hP:PmL p n) (hc:c<n):∀{es:List En},(∀e∈es,0<=e.1/\e.1<(n:Nat))->Vm.get (es.map (rnE p)) (p.getD c 0)=Vm.get es (c:Nat)
 |[],_=>rfl
 |e::es,h=>by
  rw[dN,mD,mD,aZi hP hc λe' he=>h e' (.tail _ he)]
  congr 1
  obtain⟨h1,h2⟩:=h e (.head _)
  by_cases hh:e.1=(c:Nat)
  ·rw[if_pos hh,if_pos];rfl
   show p.getD e.1.toNat 0=_
   rw[hh];rfl
  rw[if_neg hh,if_neg]
  intro h3
  have:=hP.inj e.1.toNat c oM hc h3
  omega
theorem aZj {p:List Int} {n:Nat} {cl:Nat->Nat} {x:Nat->Rat} (hcl:∀c,c<n->cl (p.getD c 0).toNat=c):∀{es:List En},(∀e∈es,0<=e.1/\e.1<(n:Nat))->dtl (es.map (rnE p)) (λi=>x (cl i))=dtl es x
 |[],_=>rfl
 |e::es,h=>by
  show e.2*x (cl (p.getD e.1.toNat 0).toNat)+dtl (es.map (rnE p)) (λi=>x (cl i))=e.2*x e.1.toNat+dtl es x
  obtain⟨h1,h2⟩:=h e (.head _)
  rw[aZj hcl λe' he=>h e' (.tail _ he),hcl e.1.toNat oM]
theorem aZk {p:List Int} {n:Nat} {es rs:List En} (hP:PmL p n) (ho:VOk es (n:Nat)) (ha:Asc rs) (hp:rs.Perm (es.map (rnE p))):VOk rs (n:Nat):=⟨ha,λe he=>by
 obtain⟨e',he',rfl⟩:=bT.1 (hp.mem_iff.1 he)
 obtain⟨h1,h2,h3⟩:=ho.2 e' he'
 obtain⟨m,hm,hmn⟩:=hP.at' e'.1.toNat oM
 show 0<=p.getD e'.1.toNat 0/\p.getD e'.1.toNat 0<(n:Nat)/\_
 rw[hm]
 exact⟨by omega,by omega,h3⟩⟩
structure LuOk (M:Nat->List En) (n:Nat) (rw cl:Nat->Nat) (Lw Up:Nat->List En):Prop where
 rlt:∀j,j<n->rw j<n
 rinj:∀i j,i<n->j<n->rw i=rw j->i=j
 clt:∀j,j<n->cl j<n
 cinj:∀i j,i<n->j<n->cl i=cl j->i=j
 low:∀k,k<n->∃l,Lw k=l++[((k:Int),1)]/\VOk l (k:Nat)
 up:∀k,k<n->∃p u,Up k=((k:Int),p)::u/\VOk (Up k) (n:Nat)
 eq:∀k,k<n->∀x,dtn n (M (rw k)) x=dtl (Lw k) λj=>dtn n (Up j) λi=>x (cl i)
theorem sV {f:Nat->Nat} {n:Nat} (h:∀j,j<n->f j<n) (hi:∀i j,i<n->j<n->f i=f j->i=j):∀c,c<n->∃j,j<n/\f j=c:=λc hc=>bA λhn=>by
 have h1:(c::(List.range n).map f).Nodup:=by
  refine iV.2 ⟨λhh=>?_,?_⟩
  ·obtain⟨j,hj,he⟩:=bT.1 hh
   exact hn ⟨j,cV.1 hj,he⟩
  rw[cQ,gE]
  exact(cQ.1 (nX (n:=n))).imp_of_mem λ{a b} ha hb hab he=>hab (hi a b (cV.1 ha) (cV.1 hb) he)
 have h2:=oN (n:=n) h1 λi hi=>by
  rcases aW.1 hi with rfl|hi
  ·exact hc
  obtain⟨j,hj,rfl⟩:=bT.1 hi
  exact h j (cV.1 hj)
 simp at h2
 omega
abbrev nL (n:Nat) (f:Nat->Nat):List Int:=(List.range n).map λj=>((f j:Nat):Int)
theorem yT {n j:Nat} {f:Nat->Nat} (h:j<n):(nL n f).getD j 0=(f j:Nat):=by unfold nL;simp[h]
theorem aZl {n:Nat} {f:Nat->Nat} (h:∀j,j<n->f j<n) (hi:∀i j,i<n->j<n->f i=f j->i=j):PmL (nL n f) n:=⟨by simp,λi hin=>⟨f i,yT hin,h i hin⟩,λi j hin hjn he=>by rw[yT hin,yT hjn] at he;exact hi i j hin hjn (kI he)⟩
theorem Elim.all {M:Nat->List En} {n:Nat} {rw cl pl:Nat->Nat} {A:List Int} {es lw:Nat->List En} (h:Elim M n n rw cl A es lw) (hp:∀j,j<n->pl (cl j)=j):PmL (nL n pl) n:=by
 have hs:=sV h.clt h.cinj
 refine aZl (λc hc=>?_) λc d hc hd he=>?_
 ·obtain⟨j,hj,rfl⟩:=hs c hc;rw[hp j hj];exact hj
 obtain⟨i,hi,rfl⟩:=hs c hc
 obtain⟨j,hj,rfl⟩:=hs d hd
 rw[hp i hi,hp j hj] at he
 rw[he]
theorem Elim.lu {M:Nat->List En} {n:Nat} {rw cl pl:Nat->Nat} {A:List Int} {es lw Up:Nat->List En} (h:Elim M n n rw cl A es lw) (hp:∀j,j<n->pl (cl j)=j) (ho:∀i,i<n->VOk (es i) (n:Nat)) (hU:∀k,k<n->Asc (Up k)/\(Up k).Perm ((es (rw k)).map (rnE (nL n pl)))):LuOk M n rw cl (λk=>lw (rw k)++[((k:Int),1)]) Up:=by
 have hP:=h.all hp
 have hs:=sV h.clt h.cinj
 have hcl:∀c,c<n->cl ((nL n pl).getD c 0).toNat=c:=λc hc=>by
  obtain⟨j,hj,rfl⟩:=hs c hc
  rw[yT hc,hp j hj];rfl
 have hV:∀k,k<n->VOk (Up k) (n:Nat):=λk hk=>aZk hP (ho _ (h.rlt k hk)) (hU k hk).1 (hU k hk).2
 have hg:∀k j,k<n->j<n->Vm.get (Up k) (j:Nat)=Vm.get (es (rw k)) (cl j:Nat):=λk j hk hj=>by
  have:=aZi hP (h.clt j hj) (ho _ (h.rlt k hk)).rg
  rw[yT (h.clt j hj),hp j hj] at this
  rw[aSm (hU k hk).2,this]
 refine⟨h.rlt,h.rinj,h.clt,h.cinj,λk hk=>⟨lw (rw k),rfl,h.lus k hk⟩,λk hk=>?_,λk hk x=>?_⟩
 ·have h1:Vm.get (Up k) (k:Nat)≠0:=by rw[hg k k hk hk];exact h.piv k hk
  obtain⟨e,he,hek⟩:=(rH (hV k hk) _).1 h1
  cases hu:Up k with
  |nil=>rw[hu] at he;cases he
  |cons e0 u=>
   have hv:=hV k hk
   have ha:=(hU k hk).1
   rw[hu] at he ha
   have h0:=hv.2 e0 (by rw[hu];exact .head _)
   have hge:¬e0.1<(k:Nat):=λhlt=>by
    have h2:=hg k e0.1.toNat hk oM
    rw[h.zl e0.1.toNat k oM hk,show((e0.1.toNat:Nat):Int)=e0.1 by omega,hu,iJ ha] at h2
    exact h0.2.2 h2
   have hle:e0.1<=(k:Nat):=by
    rcases aW.1 he with rfl|he
    ·omega
    have:=ha.head e he;omega
   refine⟨e0.2,u,?_,hu▸hv⟩
   rw[show(k:Int)=e0.1 by omega]
 show _=dtl (lw (rw k)++[((k:Int),1)]) _
 have hx:∀j,j<n->dtn n (es (rw j)) x=dtn n (Up j) λi=>x (cl i):=λj hj=>by
  rw[<-zV (hV j hj).rg,aZh (hU j hj).2,aZj hcl (ho _ (h.rlt j hj)).rg,zV (ho _ (h.rlt j hj)).rg]
 rw[h.sum _ (h.rlt k hk),uD,hx k hk,Rat.add_comm]
 congr 1
 ·refine lJ λe he=>hx _ ?_
  have:=(h.lus k hk).2 e he
  omega
 show _=(1:Rat)*_;rw[uR];rfl
def prT (q:Nat->List Nat->Tr->Tr):Nat->List Nat->Tr->Tr
 |0,_,t=>t
 |f+1,l,t=>l.foldr (λi r=> .alt i (q i (l.erase i) (prT q f (l.erase i) t)) r) .nil
def cBl:Nat->Tr->Tr
 |7,t=> .alt 2008 t .nil
 |12,t=> .alt 2013 t .nil
 |_,t=>t
def cBm (i:Nat) (l:List Nat) (t:Tr):Tr:=cBl i (bif (l.filter λj=>!Nat.beq j 15).isEmpty&&!Nat.beq i 15 then .alt 2014 t .nil else t)
theorem gs0 {nb:Nat} {s:SS} {σ:Type} {S:σ->SS} {C:σ->Prop} (t i:Nat) {n:Nat} (_:eW s.sl t=some (.c (.s i n))) (h:Gt nb s S C):Gt nb s S C:=h
def bd (B:Nat):Nat->Nat
 |0=>B
 |k+1=>4*bd B k+1
theorem oO {B k n:Nat} (h:k<=n):bd B k<=bd B n:=by
 induction h with
 |refl=>exact aF _
 |step _ ih=>exact aH ih (by show _<=4*bd B _+1;omega)
theorem aBv {B:Nat} (h:1<=B) (k:Nat):1<=bd B k:=aH h (oO (aC k))
theorem ElOk.cg {x:El} {n:Nat} {es lw:Nat->List En} {u v:Nat->Prop} (h:ElOk x n es lw u) (hu:∀i,u i↔v i):ElOk x n es lw v:=⟨h.row,h.ok,h.low,h.ca,h.nd,λj hj i=>by rw[h.mem j hj i,hu i]⟩
structure LuM where
 R:Sl Int
 K:Sl Int
 L:MatM
 U:MatM
abbrev LuM.C (f:LuM):List CV:=[jJ f.R,jJ f.K,iC f.L.r,iC f.L.c,oL f.L.d,iC f.U.r,iC f.U.c,oL f.U.d]
abbrev luZ:List CV:=[.v (.slice none 0 0),.v (.slice none 0 0),iC 0,iC 0,.v (.slice none 0 0),iC 0,iC 0,.v (.slice none 0 0)]
abbrev ioC (n:Nat) (f:Nat->Nat):List CV:=dX n λj=>iC (f j:Nat)
abbrev bFq (m:MatM) (n:Nat) (r:BL):BL:=[(24,0,m.C),(85,0,luZ),(3,1,List.replicate n (iC 0)),(3,1,List.replicate n (iC 0)),(65,1,List.replicate n (.v (.slice none 0 0))),(65,1,List.replicate n (.v (.slice none 0 0))),(85,0,[.s 2 n,.s 3 n,iC n,iC n,.s 4 n,iC n,iC n,.s 5 n])]++r
abbrev bFr (n:Nat):List (Nat×DV):=[(5,.c (.p 6 0)),(4,.c (iC n)),(1,.c (.p 0 0)),(2,.c (.p 1 0))]
def cBn:Ord:=.joinX [] [2000,2002,2004,2005,2006,2009,2010,2011] (prT cBm 5 [1,3,7,12,15] (trS [1016]))
structure FaI (M:Nat->List En) (B n k:Nat) (x:El) (es lw:Nat->List En) (A:List Int) (rw cl pl:Nat->Nat):Prop where
 hk:k<=n
 he:Elim M n k rw cl A es lw
 hx:ElOk x n es lw (λi=>∃t,t<k/\rw t=i)
 be:rbM es n (bd B (min k (n-1)))
 bl:rbM lw n (bd B (min k (n-1)))
 hp:∀j,j<k->pl (cl j)=j
structure FaG where
 k:Nat
 x:El
 es:Nat->List En
 lw:Nat->List En
 A:List Int
 rw:Nat->Nat
 cl:Nat->Nat
 pl:Nat->Nat
abbrev faB (m:MatM) (n a:Nat) (x:El) (A:List Int) (rw cl pl:Nat->Nat):BL:=[(24,0,m.C),(85,0,luZ),(3,1,ioC n rw),(3,1,ioC n cl),(65,1,List.replicate n (.v (.slice none 0 0))),(65,1,List.replicate n (.v (.slice none 0 0))),(85,0,[.s 2 n,.s 3 n,iC n,iC n,.s 4 n,iC n,iC n,.s 5 n]),(3,1,ioC n pl),(24,0,m.C),elR n x,elL n x,elC n x,elA A,elE 9 10 11 12 n a]
theorem aZm {m:MatM} {n a:Nat} {x:El} {A:List Int} {rw cl pl:Nat->Nat}:scB 14 (faB m n a x A rw cl pl):=aB rfl (aB rfl (aB (cI (aR λ_ _=>rfl)) (aB (cI (aR λ_ _=>rfl)) (aB (cI (oV rfl)) (aB (cI (oV rfl)) (aB rfl (aB (cI (aR λ_ _=>rfl)) (aB rfl (aB (cI (aR λ_ _=>rfl)) (aB (cI (aR λ_ _=>rfl)) (aB (cI (aR λ_ _=>rfl)) (aB (cI (eI _)) (aB rfl bJ)))))))))))))
abbrev faG (n k:Nat):List (Nat×DV):=[(46,.c (iC k)),(45,.c (iC n)),(7,.c (.p 13 0)),(5,.c (.p 6 0)),(6,.c (.s 7 n)),(2,.c (.p 1 0))]
theorem aMb {n k:Nat} {c1 c2:CV} (h1:(List.replicate n (iC 0))[k]? =some c1) (h2:(ioC n λ_=>0)[k]? =some c2):LeC c1 c2:=sT (λ_ _=>LeC.refl _) k c1 c2 h1 h2
theorem aMc {n j v:Nat} {f:Nat->Nat} (h:j<n):kD (ioC n f) (j*1) [iC (v:Nat)]=ioC n (upd f j v)/\j*1+1<=(ioC n f).length:=jN h λi _=>by
 by_cases e:i=j
 ·subst e;rw[if_pos rfl,bP]
 rw[if_neg e,bK e]
def cBo (n:Nat) (x:El) (A:List Int):Option (Nat×Nat×Nat)->OutF
 |none=>⟨.t [.c (iC 0),.c (iC 0),.c (.v (.bool false))],chB n A.length x A,[CF n x],∃c:Nat,c<n/\(c:Int)∈A/\x.I c=[]⟩
 |some (r,c,p)=>⟨.t [.c (iC r),.c (iC c),.c (.v (.bool true))],chB n (A.eraseIdx p).length x (A.eraseIdx p),[CF n x],(p<A.length/\A.getD p 0=(c:Nat))/\c<n/\r∈iY (x.I c)⟩
theorem aRg (x:El) {n:Nat} {A:List Int} {es lw:Nat->List En} {used:Nat->Prop} (h:ElOk x n es lw used) (h0:0<A.length) (hl:A.length<=4096) (hA:∀a∈A,0<=a/\a<(n:Nat)):CtrF Tryz.prog xN chL [.c (.p 0 0)] (chB n A.length x A) [CF n x] (cBo n x A):=(aYu x h h0 hl hA).re λg hg=>⟨g,by
 match g,hg with
 |none,hg=>exact⟨hg,rfl,rfl,rfl⟩
 |some (r,c,p),hg=>
  refine⟨hg,rfl,?_,rfl⟩
  show chB n _ x _=chB n _ x _
  rw[qH hg.1.1]⟩
def bWr:Ord:=.treeX [] [2000,1,2002,2003,4,2005,2006,2007,2008,2009,2010] (trS [2011,12,2013,14,2015,1016])
theorem aZn {n:Nat} {f:Nat->Nat} (j:Nat) (h:j<n):[iC ((nL n f).getD j 0)]=((ioC n f).drop (j*1)).take 1:=by
 have h1:=eH (P:=λj=>iC (f j:Nat)) h
 rw[bZ] at h1
 rw[yT h,bZ,dV (by rw[dF];exact h)]
 rw[aE (by rw[dF];exact h)] at h1
 injection h1 with h1
 rw[h1];rfl
theorem aPl {T n c:Nat} {A:Option Nat} {f:Nat->Nat}:FrC ⟨T,1,1,λ_=>A,λ_=>c,λ_=>ioC n f⟩ (.h A n c) (jJ ⟨A.map λb=>⟨b,0,none⟩,c,nL n f⟩):=⟨0,n,λj=>[iC ((nL n f).getD j 0)],bL,rfl,by unfold jJ Sl.R;rw[aU,gU],by rw[dF,bZ],λk hk=>aZn k hk⟩
structure FbG where
 k:Nat
 LA:Nat->Option Nat
 Lc:Nat->Nat
 G:Nat->List EntM
 HA:Nat->Option Nat
 Hn:Nat->Nat
 Hc:Nat->Nat
 S:Nat->Sl EntM
 Up:Nat->List En
structure FbI (n:Nat) (x:El) (es lw:Nat->List En) (rw pl:Nat->Nat) (g:FbG):Prop where
 hk:g.k<=n
 hu:∀j,j<g.k->Ek (g.S j).l (g.Up j)/\Asc (g.Up j)/\(g.Up j).Perm ((es (rw j)).map (rnE (nL n pl)))
 hd:∀j,j<g.k->(g.LA (rw j)=g.HA j/\g.Lc (rw j)=g.Hc j/\(g.G (rw j)).length=g.Hn j)/\Ek (g.G (rw j)) (lw (rw j)++[((j:Int),1)])
 hr:∀i,i<n->(∀t,t<g.k->rw t≠i)->g.LA i=x.LA i/\g.Lc i=x.Lc i/\g.G i=x.L i
abbrev fbH (g:FbG):Nat->CV:=λj=> .h (g.HA j) (g.Hn j) (g.Hc j)
abbrev fbB (m:MatM) (n a:Nat) (x:El) (A:List Int) (rw cl:Nat->Nat) (g:FbG):BL:=[(24,0,m.C),(85,0,luZ),(3,1,ioC n rw),(3,1,ioC n cl),(65,1,dX n (fbH g)),(65,1,dX n λj=>bR (g.S j)),(85,0,[.s 2 n,.s 3 n,iC n,iC n,.s 4 n,iC n,iC n,.s 5 n]),(3,1,[]),(24,0,m.C),elR n x,elL n x,elC n x,elA A,elE 9 10 11 12 n a]
theorem aZo {m:MatM} {n a:Nat} {x:El} {A:List Int} {rw cl:Nat->Nat} {g:FbG}:scB 14 (fbB m n a x A rw cl g):=aB rfl (aB rfl (aB (cI (aR λ_ _=>rfl)) (aB (cI (aR λ_ _=>rfl)) (aB (cI (aR λ_ _=>rfl)) (aB (cI (aR λ_ _=>rfl)) (aB rfl (aB rfl (aB rfl (aB (cI (aR λ_ _=>rfl)) (aB (cI (aR λ_ _=>rfl)) (aB (cI (aR λ_ _=>rfl)) (aB (cI (eI _)) (aB rfl bJ)))))))))))))
abbrev fbF (n:Nat) (x:El) (g:FbG):List Fam:=[⟨82,4,n,g.LA,g.Lc,λj=>ecs (g.G j)⟩,CF n x]
abbrev fbS (n:Nat) (P:Sl Int) (k:Nat):List (Nat×DV):=[(81,.c (iC k)),(79,.c (.s 2 n)),(80,.c (iC n)),(7,.c (.p 13 0)),(5,.c (.p 6 0)),(6,.c (jJ P)),(2,.c (.p 1 0))]
def bWs:Ord:=.treeX [] [2000,2001,2,2003,2004,2005,2006,7,2008,2009,1010,2011] (trS [12,2013,14,15,2016,1017])
def bWt:Ord:=.treeX [] [2000,2001,2,2003,2004,2005,2006,7,2008,2009,1010,2011] (trS [12,2013,2014,2015,2016,1017])
theorem cm {i:Nat} {l:List CV} (h:∀c∈l,fB c=true):∀c∈l,kE i c=false:=λc hc=>gI (h c hc)
theorem sk {i a:Nat} {A:Option Nat} {l:List CV} (h:∀c∈l,fB c=true):l.map (nO i A a)=l:=(dW λc hc=>aXk c (h c hc)).trans (List.map_id _)
theorem aMd {B:Nat} (h:1<=B):rb 1 B:=⟨by show len 1<=B;rw[show len 1=1 by decide];omega,by show len 1<=B;rw[show len 1=1 by decide];omega⟩
theorem aZp {l:List En} {k n:Nat} (h:VOk l (k:Nat)) (hk:k<n):VOk (l++[((k:Int),1)]) (n:Nat):=⟨eP.2 ⟨h.1,dT _ _,λa ha b hb=>by rw[aI.1 hb];exact(h.2 a ha).2.1⟩,λe he=>by
 rcases aQ.1 he with he|he
 ·have:=h.2 e he;exact⟨this.1,by omega,this.2.2⟩
 rw[aI.1 he];exact⟨by show(0:Int)<=(k:Nat);omega,by show(k:Int)<(n:Nat);omega,show(1:Rat)≠0 by decide⟩⟩
abbrev aPm:FuncId:=46
theorem bHv:Ent Tryz.prog aPm:=aV func46 rfl kR
theorem bHw:Tryz.prog.funcs[aPm]? =some Tryz.f46:=func46
theorem aZq (m:MatM) {M:Nat->List En} {n B:Nat} (h:Mr m M n n B) (hb:rbM M n B) (h1:1<=B) (hB:bd B (n-1)<=4398046511104) (hn:n<=12):Ctr Tryz.prog aPm [] [.a m.C] [] (λg:Option (LuM×(Nat->Nat)×(Nat->Nat)×(Nat->List En)×(Nat->List En))=>match g with
 |none=>⟨.t [.a luZ,.c (iC 6)],[],Ker M n⟩
 |some (f,rw,cl,Lw,Up)=>⟨.t [.a f.C,.c (iC 0)],[],(f.R.l=nL n rw/\f.K.l=nL n cl/\Mx f.L Lw n/\Mx f.U Up n)/\LuOk M n rw cl Lw Up/\rbM Lw n (bd B n)/\rbM Up n (bd B n)⟩):=by
 obtain⟨mr,mc,md⟩:=m
 obtain rfl:mr=(n:Nat):=h.r
 obtain rfl:mc=(n:Nat):=h.c
 have hBB:B<=4398046511104:=aH (oO (aC (n-1))) hB
 have mk1:n<=maxLen:=by simp only[maxLen];omega
 have fin1:∀(sl:List (Nat×DV)),vM (λ_=>true) [] [] [] sl->AllC sl (bFr n)->Gt 0 ⟨sl,[],bFq ⟨n,n,md⟩ n [],[]⟩ (σ:=Unit) (λ_=>⟨bFr n++[],[],bFq ⟨n,n,md⟩ n [],[]⟩) (λ_=>True):=λsl ht ha=>by
  refine @cH 0 _ (λ_=>true) [] (λt d ht=>by cases ht) Unit (λ_=>bFr n) (λ_=>bFq ⟨n,n,md⟩ n []) (λ_=>[]) _ () trivial ht ?_ trivial ha (aC _) ?_ rfl
  ·exact⟨rfl,rfl,rfl,rfl,rfl,rfl,rfl⟩
  exact aB rfl (aB rfl (aB (cI (oV rfl)) (aB (cI (oV rfl)) (aB (cI (oV rfl)) (aB (cI (oV rfl)) (aB rfl bJ))))))
 refine bE gT bHv bHw rfl rfl rfl bL aT (aA gT mxd ⟨[],aLm _ h hBB oM oM,rfl,rfl,rfl,λ_ _=>⟨λhh=>absurd trivial hh,λ_=>aA gT mxd ⟨λhh=>absurd rfl hh,λ_=>aA gT mxd ?_⟩⟩⟩)
 refine⟨cBn,by kernel_rfl,Unit,λ_=>⟨bFr n++[],[],bFq ⟨n,n,md⟩ n [],[]⟩,λ_=>True,?_,λ_ _=>?_⟩
 ·refine⟨?_,?_,?_,?_,?_⟩
  all_goals (first|refine⟨n,⟨rfl,rfl,by show 8*n<=_;omega,mk1⟩,rfl,?_⟩|refine⟨n,⟨rfl,rfl,by show 24*n<=_;omega,mk1⟩,rfl,?_⟩|refine⟨rfl,?_⟩)
  all_goals refine⟨?_,?_,?_,?_⟩
  all_goals (first|refine⟨n,⟨rfl,rfl,by show 8*n<=_;omega,mk1⟩,rfl,?_⟩|refine⟨n,⟨rfl,rfl,by show 24*n<=_;omega,mk1⟩,rfl,?_⟩|refine⟨rfl,?_⟩)
  all_goals refine⟨?_,?_,?_⟩
  all_goals (first|refine⟨n,⟨rfl,rfl,by show 8*n<=_;omega,mk1⟩,rfl,?_⟩|refine⟨n,⟨rfl,rfl,by show 24*n<=_;omega,mk1⟩,rfl,?_⟩|refine⟨rfl,?_⟩)
  all_goals refine⟨?_,?_⟩
  all_goals (first|refine⟨n,⟨rfl,rfl,by show 8*n<=_;omega,mk1⟩,rfl,?_⟩|refine⟨n,⟨rfl,rfl,by show 24*n<=_;omega,mk1⟩,rfl,?_⟩|refine⟨rfl,?_⟩)
  all_goals (first|refine⟨n,⟨rfl,rfl,by show 8*n<=_;omega,mk1⟩,rfl,?_⟩|refine⟨n,⟨rfl,rfl,by show 24*n<=_;omega,mk1⟩,rfl,?_⟩|refine⟨rfl,?_⟩)
  all_goals (first|refine gs0 27 2 rfl ?_|refine gs0 27 3 rfl (gsw 2 3 rfl rfl bL bL rfl ⟨_,rpm aK rfl,_,rpm aK rfl,_,rpm aK rfl,_,rpm aK rfl,bL,?_⟩)|refine gs0 27 4 rfl (gsw 2 4 rfl rfl bL bL rfl ⟨_,rpm aK rfl,_,rpm aK rfl,_,rpm aK rfl,_,rpm aK rfl,bL,?_⟩)|refine gs0 27 5 rfl (gsw 2 5 rfl rfl bL bL rfl ⟨_,rpm aK rfl,_,rpm aK rfl,_,rpm aK rfl,_,rpm aK rfl,bL,?_⟩)|refine gs0 27 6 rfl (gsw 2 6 rfl rfl bL bL rfl ⟨_,rpm aK rfl,_,rpm aK rfl,_,rpm aK rfl,_,rpm aK rfl,bL,?_⟩))
  all_goals (first|refine gs0 29 3 rfl ?_|refine gs0 29 4 rfl (gsw 3 4 rfl rfl bL bL rfl ⟨_,rpm aK rfl,_,rpm aK rfl,_,rpm aK rfl,_,rpm aK rfl,bL,?_⟩)|refine gs0 29 5 rfl (gsw 3 5 rfl rfl bL bL rfl ⟨_,rpm aK rfl,_,rpm aK rfl,_,rpm aK rfl,_,rpm aK rfl,bL,?_⟩)|refine gs0 29 6 rfl (gsw 3 6 rfl rfl bL bL rfl ⟨_,rpm aK rfl,_,rpm aK rfl,_,rpm aK rfl,_,rpm aK rfl,bL,?_⟩))
  all_goals (first|refine gs0 33 4 rfl ?_|refine gs0 33 5 rfl (gsw 4 5 rfl rfl bL bL rfl ⟨_,rpm aK rfl,_,rpm aK rfl,_,rpm aK rfl,_,rpm aK rfl,bL,?_⟩)|refine gs0 33 6 rfl (gsw 4 6 rfl rfl bL bL rfl ⟨_,rpm aK rfl,_,rpm aK rfl,_,rpm aK rfl,_,rpm aK rfl,bL,?_⟩))
  all_goals (first|refine gs0 38 5 rfl ?_|refine gs0 38 6 rfl (gsw 5 6 rfl rfl bL bL rfl ⟨_,rpm aK rfl,_,rpm aK rfl,_,rpm aK rfl,_,rpm aK rfl,bL,?_⟩))
  all_goals exact fin1 _ (by rfl) (by exact⟨rfl,rfl,rfl,rfl⟩)
 refine⟨n,⟨rfl,rfl,by show 8*n<=_;omega,mk1⟩,[],bEx ⟨n,n,md⟩ h hb h1 hBB oM,rfl,rfl,rfl,λx hx=>?_⟩
 replace hx:ElOk x n M (λ_=>[]) (λ_=>False):=hx
 show Sd _ _ _ _ _ _
 refine iS tSd 2 (ioC n λ_=>0) rfl (by rw[dF,cT]) (λ_ _ _=>aMb) ?_
 refine iS tSd 3 (ioC n λ_=>0) rfl (by rw[dF,cT]) (λ_ _ _=>aMb) ?_
 refine iS tSd 7 (ioC n λ_=>0) rfl (by rw[dF,cT]) (λ_ _ _=>aMb) ?_
 refine dR (λ_=>true) (λg:FaG=>faG n g.k) (λg=>faB ⟨n,n,md⟩ n g.A.length g.x g.A g.rw g.cl g.pl) (λg=>[LF n g.x,CF n g.x]) (λg=>FaI M B n g.k g.x g.es g.lw g.A g.rw g.cl g.pl) (λg=>n-g.k) λhM=>⟨cH hM (chg:=λg:FaG=>faG n g.k) (bls:=λg=>faB ⟨n,n,md⟩ n g.A.length g.x g.A g.rw g.cl g.pl) (fls:=λg=>[LF n g.x,CF n g.x]) ⟨0,x,M,λ_=>[],aL n n,λ_=>0,λ_=>0,λ_=>0⟩ ⟨aC _,Elim.start M n _ _,hx.cg λi=>⟨False.elim,λ⟨t,ht,_⟩=>absurd ht (aM _)⟩,(by show rbM M n (bd B (min 0 (n-1)));rw[Nat.zero_min];exact hb),λi _ e he=>(by cases he),λj hj=>absurd hj (aM _)⟩ rfl ⟨rfl,rfl,rfl,rfl,rfl,rfl,rfl,rfl,rfl,rfl,rfl,rfl,rfl,?_⟩ ⟨rfl,rfl,trivial⟩ ⟨rfl,rfl,rfl,rfl,rfl,rfl⟩ bL aZm rfl,λ⟨k,x,es,lw,A,rw,cl,pl⟩ hI=>aA gT mxd ⟨λh2=>aA gT mxd ?_,λh2=>aA gT mxd ?_⟩⟩
 ·show elE 9 10 11 12 n n=elE 9 10 11 12 n (aL n n).length
  rw[aYn];simp
 ·replace h2:(k:Int)<(n:Nat):=h2
  have hkn:k<n:=by omega
  obtain⟨-,he,hx,hbe,hbl,hpp⟩:=hI
  replace he:Elim M n k rw cl A es lw:=he
  replace hx:ElOk x n es lw (λi=>∃t,t<k/\rw t=i):=hx
  replace hbe:rbM es n (bd B (min k (n-1))):=hbe
  replace hbl:rbM lw n (bd B (min k (n-1))):=hbl
  replace hpp:∀j,j<k->pl (cl j)=j:=hpp
  have hAl:=he.kn
  have hA:∀a∈A,0<=a/\a<(n:Nat):=λa ha=>by
   obtain⟨j,rfl,hj,_⟩:=(he.mem a).1 ha
   omega
  refine⟨[13,9,10,11,12,1001],aRg x hx oM oM hA,rfl,rfl,rfl,λg hg=>?_⟩
  match g,hg with
  |none,⟨c,hc,hcA,hI⟩=>
   have hker:Ker M n:=he.ker hcA λi hi hu=>bA λhne=>by
    have:=(hx.mem c hc i).2 ⟨⟨hi,λ⟨t,ht,e⟩=>hu t ht e⟩,hne⟩
    rw[hI] at this
    cases this
   exact⟨none,hker,aO ⟨rfl,rfl⟩ rfl trivial⟩
  |some (r,c,p),⟨⟨hp,hc⟩,hcn,hrk⟩=>
   obtain⟨⟨hr,hu⟩,hpv⟩:=(hx.mem c hcn r).1 hrk
   have hbm:bd B (min k (n-1))<=4398046511104:=aH (oO oM) hB
   have hbb:∀i,i<n->¬(∃t,t<k/\rw t=i)->i≠r->k+1<n:=λi hi hui hir=>bA λhk2=>by
    obtain rfl:n=k+1:=by omega
    obtain⟨t,ht,e⟩:=sV (f:=upd rw k r) (n:=k+1) (λj hj=>by
     by_cases e:j=k
     ·subst e;rw[bP];exact hr
     ·rw[bK e];exact he.rlt j oM) (λa b ha hb e=>by
     by_cases e1:a=k
     ·by_cases e2:b=k
      ·omega
      subst e1;rw[bP,bK e2] at e;exact absurd ⟨b,by omega,e.symm⟩ hu
     by_cases e2:b=k
     ·subst e2;rw[bP,bK e1] at e;exact absurd ⟨a,by omega,e⟩ hu
     rw[bK e1,bK e2] at e;exact he.rinj a b oM oM e) i hi
    by_cases e2:t=k
    ·subst e2;rw[bP] at e;exact hir e.symm
    rw[bK e2] at e;exact hui ⟨t,by omega,e⟩
   have hbo:∀i,i<n->¬(∃t,t<k/\rw t=i)->i≠r->4*bd B (min k (n-1))+1<=4398046511104:=λi hi hui hir=>by
    have h7:=hbb i hi hui hir
    rw[eC oM]
    exact aH (oO (k:=k+1) oM) hB
   refine⟨bWr,by kernel_rfl,k,⟨rfl,hkn,dG hkn⟩,_,aMc hkn,rfl,k,⟨rfl,hkn,dG hkn⟩,_,aMc hkn,rfl,c,⟨rfl,hcn,dG hcn⟩,_,aMc hcn,?_⟩
   refine⟨[13,9,10,11,12,1000,1001],bOl x (A:=A.eraseIdx p) (kk:=k) hx oM hr hu hcn hpv hbe hbl (aBv h1 _) hbm hbo oM (λi hi=>by have:=kO (he.lok i hi);omega),rfl,rfl,rfl,λ⟨x',es',lw'⟩ ⟨⟨hx',hS⟩,hbe',hbl'⟩=>?_⟩
   have hbx:rbM es' n (bd B (min (k+1) (n-1)))/\rbM lw' n (bd B (min (k+1) (n-1))):=by
    by_cases hk2:k+1<n
    ·rw[show min (k+1) (n-1)=k+1 by omega]
     rw[show min k (n-1)=k by omega] at hbe' hbl'
     exact⟨hbe',hbl'⟩
    rw[show min (k+1) (n-1)=min k (n-1) by omega]
    have h9:∀i,es' i=es i/\lw' i=lw i:=λi=>hS.no i λhh=>hk2 (hbb i hh.1.1 hh.1.2.1 hh.1.2.2)
    exact⟨λi hi=>by rw[(h9 i).1];exact hbe i hi,λi hi=>by rw[(h9 i).2];exact hbl i hi⟩
   replace hu:∀t,t<k->rw t≠r:=λt ht e=>hu ⟨t,ht,e⟩
   have he':=he.next hr hu hp hc hpv hS λi=>oC
   refine⟨(k+1:Nat),wi,cH hM (chg:=λg:FaG=>faG n g.k) (bls:=λg=>faB ⟨n,n,md⟩ n g.A.length g.x g.A g.rw g.cl g.pl) (fls:=λg=>[LF n g.x,CF n g.x]) ⟨k+1,x',es',lw',A.eraseIdx p,upd rw k r,upd cl k c,upd pl c k⟩ ⟨⟨hkn,he',hx'.cg λi=>⟨λhh=>?_,λ⟨t,ht,e⟩=>?_⟩,hbx.1,hbx.2,λj hj=>?_⟩,show n-(k+1)<n-k by omega⟩ rfl ⟨rfl,rfl,rfl,rfl,rfl,rfl,rfl,rfl,rfl,rfl,rfl,rfl,rfl,rfl⟩ ⟨rfl,rfl,trivial⟩ ⟨rfl,rfl,rfl,rfl,rfl,rfl⟩ bL aZm rfl⟩
   ·rcases hh with ⟨t,ht,e⟩|e
    ·exact⟨t,gD ht,(bK oM).trans e⟩
    exact⟨k,bN k,bP.trans e.symm⟩
   ·replace ht:t<k+1:=ht
    replace e:upd rw k r t=i:=e
    by_cases e2:t=k
    ·subst e2;rw[bP] at e;exact .inr e.symm
    rw[bK e2] at e;exact .inl ⟨t,by omega,e⟩
   replace hj:j<k+1:=hj
   show upd pl c k (upd cl k c j)=j
   by_cases e2:j=k
   ·subst e2;rw[bP,bP]
   have e3:cl j≠c:=λe4=>by
    have h5:=he'.cinj j k oM oM
    rw[bK e2,bP] at h5
    exact e2 (h5 e4)
   rw[bK e2,bK e3]
   exact hpp j oM
 replace h2:¬(k:Int)<(n:Nat):=h2
 obtain⟨hk,he,hx,hbe,hbl,hpp⟩:=hI
 replace hk:k<=n:=hk
 obtain rfl:n=k:=by omega
 replace he:Elim M n n rw cl A es lw:=he
 replace hx:ElOk x n es lw (λi=>∃t,t<n/\rw t=i):=hx
 replace hbe:rbM es n (bd B (min n (n-1))):=hbe
 rw[show min n (n-1)=n-1 by omega] at hbe
 replace hbl:rbM lw n (bd B (min n (n-1))):=hbl
 rw[show min n (n-1)=n-1 by omega] at hbl
 replace hpp:∀j,j<n->pl (cl j)=j:=hpp
 have hP:=he.all hpp
 show Sd _ _ _ _ _ _
 refine aKa 6 7 (λj=>[iC ((nL n pl).getD j 0)]) rfl rfl (λj hj=>aZn j hj) (by rw[dF,bZ]) bL (aR λ_ _=>rfl) bL λPA pc _ _=>⟨cm (aR λ_ _=>rfl),cm (aR λ_ _=>rfl),cm (oV rfl),cm (oV rfl),cm (aR λ_ _=>rfl),cm (aR λ_ _=>rfl),cm (aR λ_ _=>rfl),cm (eI _),aA gT mxd ?_⟩
 show Sd _ _ _ _ _ _
 refine iS tSd 4 (dX n λ_=> .h none 0 0) rfl (by rw[dF,cT]) (sT λ_ _=>LeC.nilh) ?_
 refine iS tSd 5 (dX n λ_=>bR dK) rfl (by rw[dF,cT]) (sT λ_ _=>aCy) ?_
 have hPl:(nL n pl).length=n:=hP.ln
 obtain⟨P,hPe⟩:∃P:Sl Int,P=⟨PA,pc,nL n pl⟩:=⟨_,rfl⟩
 have hPs:CV.r PA n pc 1 (λj=>[iC ((nL n pl).getD j 0)])=jJ P:=by rw[hPe];unfold jJ Sl.R;rw[hPl]
 refine dR (λ_=>true) (λg:FbG=>fbS n P g.k) (λg=>fbB ⟨n,n,md⟩ n A.length x A rw cl g) (λg=>fbF n x g) (λg=>FbI n x es lw rw pl g) (λg=>n-g.k) λhM2=>⟨cH hM2 (chg:=λg:FbG=>fbS n P g.k) (bls:=λg=>fbB ⟨n,n,md⟩ n A.length x A rw cl g) (fls:=λg=>fbF n x g) ⟨0,x.LA,x.Lc,x.L,λ_=>none,λ_=>0,λ_=>0,λ_=>dK,λ_=>[]⟩ ⟨aC _,λj hj=>absurd hj (aM _),λj hj=>absurd hj (aM _),λi _ _=>⟨rfl,rfl,rfl⟩⟩ rfl ⟨rfl,rfl,rfl,rfl,rfl,rfl,rfl,rfl,rfl,rfl,rfl,rfl,rfl,rfl⟩ ⟨rfl,rfl,trivial⟩ ⟨rfl,rfl,rfl,rfl,rfl,hPs,rfl⟩ bL aZo rfl,λ⟨k,LA,Lc,G,HA,Hn,Hc,S,Up⟩ ⟨hk,hu,hd,hr⟩=>aA gT mxd ⟨λh3=>aA gT mxd ?_,λh3=>aA gT mxd ?_⟩⟩
 all_goals
  replace hk:k<=n:=hk
  replace hu:∀j,j<k->Ek (S j).l (Up j)/\Asc (Up j)/\(Up j).Perm ((es (rw j)).map (rnE (nL n pl))):=hu
  replace hd:∀j,j<k->(LA (rw j)=HA j/\Lc (rw j)=Hc j/\(G (rw j)).length=Hn j)/\Ek (G (rw j)) (lw (rw j)++[((j:Int),1)]):=hd
  replace hr:∀i,i<n->(∀t,t<k->rw t≠i)->LA i=x.LA i/\Lc i=x.Lc i/\G i=x.L i:=hr
 ·replace h3:(k:Int)<(n:Nat):=h3
  have hkn:k<n:=by omega
  obtain⟨i,hi⟩:∃i,i=rw k:=⟨_,rfl⟩
  have hin:i<n:=by rw[hi];exact he.rlt k hkn
  have hti:∀t,t<k->rw t≠i:=λt ht e=>by
   have:=he.rinj t k oM hkn (e.trans hi)
   omega
  obtain⟨r1,r2,r3⟩:=hr i hin hti
  have hlo:=hx.low i hin
  have hll:(x.L i).length=(lw i).length:=hlo.ln
  have hli:=kO (he.lok i hin)
  have hcell:(dX n (hdP x.LA x.Lc x.L))[i*1]? =some (.h (x.LA i) (x.L i).length (x.Lc i)):=eH hin
  have hcell2:(dX n λj=>bR (x.R j))[i*1]? =some (bR (x.R i)):=eH hin
  refine⟨k,⟨rfl,hkn,dG hkn⟩,_,(eH hkn).trans (by rw[<-hi]),?_⟩
  refine⟨bWs,by kernel_rfl,i,⟨rfl,hin,dG hin⟩,_,_,⟨hcell,rfl⟩,[],zN (z:=1) dC,rfl,rfl,rfl,λq hq=>⟨ck (congrArg sI hcell) (ck rfl (ck rfl rfl)),ck (congrArg sI hcell) (ck rfl (ck rfl rfl)),0,i,⟨rfl,hin,r1,r2,?_,?_,?_,?_⟩,λA' c'=>⟨ck (congrArg sI hcell) (ck rfl (ck rfl rfl)),k,⟨rfl,hkn,dG hkn⟩,_,jN (c:=.h A' ((x.L i).length+1) c') (Q:=λj=> .h (upd HA k A' j) (upd Hn k ((x.L i).length+1) j) (upd Hc k c' j)) hkn (λj _=>?_),?_⟩⟩⟩
  ·show(x.L i).length*4=(ecs (G i)).length
   rw[fU,r3]
  ·show(x.L i).length+1<=maxLen
   simp only[maxLen]
   omega
  ·show((x.L i).length+1)*64<=_
   omega
  ·intro c' hc'
   rcases aW.1 hc' with rfl|hc'
   ·rfl
   exact gJ _ c' hc'
  ·by_cases e:j=k
   ·subst e;rw[if_pos rfl,bP,bP,bP]
   rw[if_neg e,bK e,bK e,bK e]
  have hPP:PmL P.l n:=by rw[hPe];exact hP
  refine⟨bWt,by kernel_rfl,i,⟨rfl,hin,dG hin⟩,_,_,⟨hcell2,rfl⟩,[],bPc (x.R i) P (hx.row i hin) (hbe i hin) (aBv h1 (n-1)) hB (hx.ok i hin).1 hn hPP,rfl,rfl,rfl,λy ⟨rs,y1,y2,y3⟩=>⟨ck (congrArg sI hcell2) (ck rfl (ck rfl rfl)),k,⟨rfl,hkn,dG hkn⟩,_,jN (c:=bR y) (Q:=λj=>bR (upd S k y j)) hkn (λj _=>?_),(k+1:Nat),wi,cH hM2 (chg:=λg:FbG=>fbS n P g.k) (bls:=λg=>fbB ⟨n,n,md⟩ n A.length x A rw cl g) (fls:=λg=>fbF n x g) ⟨k+1,upd LA i A',upd Lc i c',upd G i (G i++[(⟨k,q⟩:EntM)]),upd HA k A',upd Hn k ((x.L i).length+1),upd Hc k c',upd S k y,upd Up k rs⟩ ⟨⟨hkn,λj hj=>?_,λj hj=>?_,λi' hi' ht'=>?_⟩,show n-(k+1)<n-k by omega⟩ rfl ⟨rfl,rfl,rfl,rfl,rfl,rfl,rfl,rfl,rfl,rfl,rfl,rfl,rfl,rfl⟩ ⟨aFs (T:=82) (n:=n) (A:=upd LA i A') (cap:=upd Lc i c') (G:=G) (j:=i) (e:=⟨k,q⟩),rfl,trivial⟩ ⟨rfl,rfl,rfl,rfl,rfl,rfl,rfl⟩ bL aZo rfl⟩⟩
  ·by_cases e:j=k
   ·subst e;rw[if_pos rfl,bP]
   rw[if_neg e,bK e]
  ·replace hj:j<k+1:=hj
   show Ek (upd S k y j).l (upd Up k rs j)/\Asc (upd Up k rs j)/\(upd Up k rs j).Perm _
   by_cases e:j=k
   ·subst e
    rw[bP,bP,<-hi]
    refine⟨y1,y2,?_⟩
    rw[hPe] at y3
    exact y3
   rw[bK e,bK e];exact hu j oM
  ·replace hj:j<k+1:=hj
   show(upd LA i A' (rw j)=upd HA k A' j/\upd Lc i c' (rw j)=upd Hc k c' j/\(upd G i (G i++[(⟨k,q⟩:EntM)]) (rw j)).length=upd Hn k _ j)/\Ek (upd G i (G i++[(⟨k,q⟩:EntM)]) (rw j)) _
   by_cases e:j=k
   ·subst e
    rw[<-hi]
    simp only[bP]
    rw[r3]
    exact⟨⟨trivial,trivial,by rw[aJ];rfl⟩,aLy hlo rfl hq⟩
   have e2:=hti j oM
   rw[bK e,bK e,bK e,bK e2,bK e2,bK e2]
   exact hd j oM
  replace ht':∀t,t<k+1->rw t≠i':=ht'
  have e2:i'≠i:=λe=>ht' k oM (by rw[e,hi])
  show upd LA i A' i'=_/\upd Lc i c' i'=_/\upd G i _ i'=_
  rw[bK e2,bK e2,bK e2]
  exact hr i' hi' λt ht=>ht' t oM
 replace h3:¬(k:Int)<(n:Nat):=h3
 obtain rfl:n=k:=by omega
 have hlu:=he.lu (Up:=Up) hpp (λi hi=>(hx.ok i hi).1) λj hj=>⟨(hu j hj).2.1,(hu j hj).2.2⟩
 obtain⟨SL,hSL⟩:∃SL:Nat->Sl EntM,SL=λj=>⟨(HA j).map λb=>⟨b,0,none⟩,Hc j,G (rw j)⟩:=⟨_,rfl⟩
 show Sd _ _ _ _ _ _
 refine tE tSd 4 0 (dX n λj=>bR (SL j)) rfl rfl rfl (by rw[dF,dF]) (aFr λj hj=>?_) ?_
 ·obtain⟨⟨d1,d2,d3⟩,d4⟩:=hd j hj
  refine⟨rw j,Hn j,λk=>((G (rw j)).getD k default).C,he.rlt j hj,?_,?_,?_,λq hq=>pV _ q oM⟩
  ·show CV.h (HA j) (Hn j) (Hc j)= .h (LA (rw j)) (Hn j) (Lc (rw j))
   rw[d1,d2]
  ·show bR (SL j)=CV.r ((LA (rw j)).map λb=>⟨b,0,none⟩) (Hn j) (Lc (rw j)) 4 _
   rw[hSL,d1,d2,<-d3];rfl
  show Hn j*4=(ecs (G (rw j))).length
  rw[fU,d3]
 refine vN tSd 2 rfl bL (aR λ_ _=>rfl) bL rfl λA2 c2=>⟨_,sk (aR λ_ _=>rfl),_,sk (aR λ_ _=>rfl),_,sk (aR λ_ _=>rfl),_,rfl,_,sk (aR λ_ _=>rfl),_,sk (aR λ_ _=>rfl),_,sk (aR λ_ _=>rfl),_,sk (eI _),?_⟩
 refine tE tSd 6 2 [jJ ⟨A2.map λb=>⟨b,0,none⟩,c2,nL n rw⟩,.s 3 n,iC n,iC n,.s 4 n,iC n,iC n,.s 5 n] rfl rfl rfl rfl (uA (k0:=0) rfl aPl) ?_
 refine vN tSd 3 rfl bL (aR λ_ _=>rfl) bL rfl λA3 c3=>⟨_,rfl,_,sk (aR λ_ _=>rfl),_,sk (aR λ_ _=>rfl),_,rfl,_,sk (aR λ_ _=>rfl),_,sk (aR λ_ _=>rfl),_,sk (aR λ_ _=>rfl),_,sk (eI _),?_⟩
 refine tE tSd 6 3 [jJ ⟨A2.map λb=>⟨b,0,none⟩,c2,nL n rw⟩,jJ ⟨A3.map λb=>⟨b,0,none⟩,c3,nL n cl⟩,iC n,iC n,.s 4 n,iC n,iC n,.s 5 n] rfl rfl rfl rfl (uA (k0:=1) rfl aPl) ?_
 refine vN tSd 4 rfl bL (aR λ_ _=>rfl) bL rfl λA4 c4=>⟨_,rfl,_,rfl,_,sk (aR λ_ _=>rfl),_,rfl,_,sk (aR λ_ _=>rfl),_,sk (aR λ_ _=>rfl),_,sk (aR λ_ _=>rfl),_,sk (eI _),?_⟩
 refine tE tSd 6 4 [jJ ⟨A2.map λb=>⟨b,0,none⟩,c2,nL n rw⟩,jJ ⟨A3.map λb=>⟨b,0,none⟩,c3,nL n cl⟩,iC n,iC n,oL ⟨A4.map λb=>⟨b,0,none⟩,c4,jE SL n⟩,iC n,iC n,.s 5 n] rfl rfl rfl rfl (uA (k0:=4) rfl xJ) ?_
 refine vN tSd 5 rfl bL (aR λ_ _=>rfl) bL rfl λA5 c5=>⟨_,rfl,_,rfl,_,rfl,_,rfl,_,sk (aR λ_ _=>rfl),_,sk (aR λ_ _=>rfl),_,sk (aR λ_ _=>rfl),_,sk (eI _),?_⟩
 refine tE tSd 6 5 [jJ ⟨A2.map λb=>⟨b,0,none⟩,c2,nL n rw⟩,jJ ⟨A3.map λb=>⟨b,0,none⟩,c3,nL n cl⟩,iC n,iC n,oL ⟨A4.map λb=>⟨b,0,none⟩,c4,jE SL n⟩,iC n,iC n,oL ⟨A5.map λb=>⟨b,0,none⟩,c5,jE S n⟩] rfl rfl rfl rfl (uA (k0:=7) rfl xJ) ?_
 refine aA gT mxd ⟨some (⟨⟨A2.map λb=>⟨b,0,none⟩,c2,nL n rw⟩,⟨A3.map λb=>⟨b,0,none⟩,c3,nL n cl⟩,⟨n,n,⟨A4.map λb=>⟨b,0,none⟩,c4,jE SL n⟩⟩,⟨n,n,⟨A5.map λb=>⟨b,0,none⟩,c5,jE S n⟩⟩⟩,rw,cl,λk=>lw (rw k)++[((k:Int),1)],Up),⟨⟨rfl,rfl,?_,?_⟩,hlu,?_,?_⟩,aO ⟨rfl,rfl⟩ rfl trivial⟩
 ·refine⟨rfl,rfl,nT,λj hj=>?_,λj hj=>?_⟩
  ·show Ek ((jE SL n).getD j dK).l _
   rw[rW hj,hSL];exact(hd j hj).2
  have:=aZp (he.lus j hj) hj
  exact⟨this,kO this⟩
 ·refine⟨rfl,rfl,nT,λj hj=>?_,λj hj=>?_⟩
  ·show Ek ((jE S n).getD j dK).l _
   rw[rW hj];exact(hu j hj).1
  have:=aZk hP (hx.ok _ (he.rlt j hj)).1 (hu j hj).2.1 (hu j hj).2.2
  exact⟨this,kO this⟩
 ·intro j hj e hem
  rcases aQ.1 hem with hem|hem
  ·exact(hbl _ (he.rlt j hj) e hem).le (oO (nW n 1))
  rw[aI.1 hem];exact aMd (aBv h1 n)
 intro j hj e hem
 obtain⟨e',he',rfl⟩:=bT.1 ((hu j hj).2.2.mem_iff.1 hem)
 exact(hbe _ (he.rlt j hj) e' he').le (oO (nW n 1))
abbrev fpG (g:Sl Int) (n k:Nat):List (Nat×DV):=[(16,.c (iC k)),(14,.c (jJ g)),(15,.c (iC n)),(1,.c (iC n)),(5,.c (.s 0 n))]
abbrev aZr:FuncId:=236
theorem bWu:Ent Tryz.prog aZr:=aV func236 rfl kR
theorem bWv:Tryz.prog.funcs[aZr]? =some Tryz.f236:=func236
theorem aZs (g:Sl Int) {n:Nat} (hp:PmL g.l n) (hn:n<=4096):Ctr Tryz.prog aZr [] [.c (jJ g),.c (iC n)] [] (λ_:Unit=>⟨.c (.v (.bool true)),[],True⟩):=by
 obtain rfl:g.l.length=n:=hp.ln
 refine bE gT bWu bWv rfl rfl rfl bL aT (aA gT mxd ⟨λh=>absurd rfl h,λ_=>aA gT mxd ⟨g.l.length,⟨rfl,rfl,by show 1*g.l.length<=_;omega,by simp only[maxLen];omega⟩,?_⟩⟩)
 show Sd _ _ _ _ _ _
 refine iS tSd 0 (dX g.l.length (bw λ_=>false)) rfl (by rw[dF,cT]) (sT λ_ _=>LeC.refl _) ?_
 refine dR (λ_=>true) (λu:Nat×(Nat->Bool)=>fpG g g.l.length u.1) (λu=>ipB g.l.length u.2) (λ_=>[]) (λu=>u.1<=g.l.length/\SnP g.l u.1 u.2) (λu=>g.l.length-u.1) λhM=>⟨cH hM (chg:=λu:Nat×(Nat->Bool)=>fpG g g.l.length u.1) (bls:=λu=>ipB g.l.length u.2) (fls:=λ_=>[]) (0,λ_=>false) ⟨aC _,λj hj=>by cases hj⟩ rfl rfl trivial ⟨rfl,rfl,rfl,rfl,rfl⟩ bL aFy rfl,λ⟨k,s⟩ ⟨hk,hs⟩=>aA gT mxd ⟨λh2=>aA gT mxd ?_,λh2=>aA gT mxd ?_⟩⟩
 all_goals
  replace hk:k<=g.l.length:=hk
  replace hs:SnP g.l k s:=hs
 ·replace h2:(k:Int)<(g.l.length:Nat):=h2
  have hkl:k<g.l.length:=by omega
  obtain⟨m,hm,hmn⟩:=hp.at' k hkl
  have hf:=hs.not hp hkl hm
  have hc:(dX g.l.length (bw s))[m*1]? =some (pS (.bool false)):=(eH hmn).trans (by unfold bw;rw[hf];rfl)
  refine⟨k,⟨rfl,hkl⟩,m,λhq=>⟨hm,hmn,dG hmn⟩,_,λhq=>hc,?_⟩
  refine⟨λh3=>?_,λh3=>aA gT mxd ⟨m,⟨hm,hmn,dG hmn⟩,_,aZd hmn,(k+1:Nat),wi,cH hM (chg:=λu:Nat×(Nat->Bool)=>fpG g g.l.length u.1) (bls:=λu=>ipB g.l.length u.2) (fls:=λ_=>[]) (k+1,upd s m true) ⟨⟨hkl,hs.next hm⟩,show g.l.length-(k+1)<g.l.length-k by omega⟩ rfl rfl trivial ⟨rfl,rfl,rfl,rfl,rfl⟩ bL aFy rfl⟩⟩
  replace h3:(g.l.getD k 0<0\/((g.l.length:Nat):Int)<=g.l.getD k 0)\/(false=true):=h3
  rcases h3 with h3|h3
  ·omega
  cases h3
 exact aA gT mxd ⟨(),trivial,aO rfl rfl trivial⟩
structure LuG (f:LuM) (M:Nat->List En) (n:Nat) (rw cl:Nat->Nat) (Lw Up:Nat->List En) (F:Nat):Prop where
 R:f.R.l=nL n rw
 K:f.K.l=nL n cl
 L:Mx f.L Lw n
 U:Mx f.U Up n
 o:LuOk M n rw cl Lw Up
 bl:rbM Lw n F
 bu:rbM Up n F
abbrev wfB (n:Nat):BL:=[(3,0,[iC n])]
abbrev aZt:FuncId:=237
theorem bWw:Ent Tryz.prog aZt:=aV func237 rfl kR
theorem bWx:Tryz.prog.funcs[aZt]? =some Tryz.f237:=func237
theorem bHx (m:MatM) {M:Nat->List En} {n B:Nat} (h:Mx m M n) (hb:rbM M n B) (hB:B<=4398046511104) (hn:n<=4096):Ctr Tryz.prog aZt [true] [.a m.C,.c (.p 0 0)] (wfB n) (λ_:Unit=>⟨pC True,wfB n,True⟩):=by
 have hr:=h.r
 have hc:=h.c
 refine bE gT bWw bWx rfl rfl rfl bL (ClB.one rfl) (aA gT mxd ⟨λhq=>?_,λhq=>?_⟩)
 ·exact⟨[],aLm m (h.mr hb) hB hn hn,rfl,rfl,rfl,λ_ _=>⟨(),trivial,jW oC rfl bL (aB rfl bJ) rfl (ClB.one rfl)⟩⟩
 exact absurd ⟨hr,hc⟩ hq
abbrev wfG (n k:Nat):List (Nat×DV):=[(37,.c (iC k)),(36,.c (iC n)),(2,.c (.p 0 0)),(6,.c (.p 2 0))]
abbrev bFs:FuncId:=213
theorem cBp:Ent Tryz.prog bFs:=aV func213 rfl kR
theorem cBq:Tryz.prog.funcs[bFs]? =some Tryz.f213:=func213
theorem cBr (f:LuM) {M:Nat->List En} {n F:Nat} {rw cl:Nat->Nat} {Lw Up:Nat->List En} (h:LuG f M n rw cl Lw Up F) (hF:F<=4398046511104) (h1:1<=F) (hn:n<=4096):Ctr Tryz.prog bFs [] [.a f.C,.c (iC n)] [] (λ_:Unit=>⟨.c (.v (.bool true)),[],True⟩):=by
 have pR:PmL f.R.l n:=by rw[h.R];exact aZl h.o.rlt h.o.rinj
 have pK:PmL f.K.l n:=by rw[h.K];exact aZl h.o.clt h.o.cinj
 refine bE gT cBp cBq rfl rfl rfl bL aT (aA gT mxd ⟨[],aZs f.R pR hn,rfl,rfl,rfl,λ_ _=>⟨[],aZs f.K pK hn,rfl,rfl,rfl,λ_ _=>?_⟩⟩)
 refine⟨_,rfl,[1],bHx f.L h.L h.bl hF hn,rfl,rfl,rfl,λ_ _=>?_⟩
 refine⟨λhq=>absurd trivial hq,λ_=>⟨_,rfl,[1],bHx f.U h.U h.bu hF hn,rfl,rfl,rfl,λ_ _=>⟨λhq=>absurd trivial hq,λ_=>aA gT mxd ⟨[],zN (z:=1) dC,rfl,rfl,rfl,λq hq=>?_⟩⟩⟩⟩
 replace hq:Cr q 1:=hq
 show Sd _ _ _ _ _ _
 refine dR (λ_=>true) (λk:Nat=>wfG n k) (λ_=>[(85,0,f.C),(3,0,[iC n]),(62,0,q.C)]) (λ_=>[]) (λk=>k<=n) (λk=>n-k) λhM=>⟨cH hM (chg:=λk:Nat=>wfG n k) (bls:=λ_=>[(85,0,f.C),(3,0,[iC n]),(62,0,q.C)]) (fls:=λ_=>[]) 0 (aC _) rfl ⟨rfl,rfl,rfl⟩ trivial ⟨rfl,rfl,rfl,rfl⟩ bL (aB rfl (aB rfl (aB rfl bJ))) rfl,λk hk=>aA gT mxd ⟨λh2=>aA gT mxd ?_,λh2=>aA gT mxd ?_⟩⟩
 all_goals
  replace hk:k<=n:=hk
 ·replace h2:(k:Int)<(n:Nat):=h2
  have hkn:k<n:=by omega
  have lL:=h.L.ln
  have lU:=h.U.ln
  have eL:=h.L.row k hkn
  have eU:=h.U.row k hkn
  refine⟨.seq (sq 99 (List.range 14)),by kernel_rfl,k,⟨rfl,show k<f.L.d.l.length by omega⟩,k,⟨rfl,show k<f.U.d.l.length by omega⟩,?_⟩
  obtain⟨l,hl,hvl⟩:=h.o.low k hkn
  obtain⟨p,u,hu,hvu⟩:=h.o.up k hkn
  have ln1:(f.L.d.l.getD k dK).l.length=l.length+1:=by rw[eL.ln,hl];simp
  have ln2:0<(f.U.d.l.getD k dK).l.length:=by rw[eU.ln,hu];simp
  have e1:=eL.e l.length (by rw[hl];simp)
  have e2:=eU.e 0 (by rw[hu];simp)
  have hl2:(Lw k).getD l.length default=((k:Int),1):=by rw[hl];simp
  rw[hl2] at e1
  rw[hu] at e2
  have i1:((f.L.d.l.getD k dK).l.getD l.length default).ix=(k:Nat):=e1.1
  have i2:((f.U.d.l.getD k dK).l.getD 0 default).ix=(k:Nat):=e2.1
  have hll:=kO hvl
  have q1:Rq q 1 F:=hq.rq (aMd h1)
  have q2:Rq ((f.L.d.l.getD k dK).l.getD l.length default).v 1 F:=Cr.rq e1.2 (aMd h1)
  have ar:((l.length:Nat):Int)=IntKind.i64.wrap (((f.L.d.l.getD k dK).l.length:Nat)-1):=wi oM
  refine⟨.seq (sq 23 (List.range 26)),by kernel_rfl,(l.length:Nat),λ_=>ar,l.length,λ_=>⟨rfl,show l.length<(f.L.d.l.getD k dK).l.length by omega⟩,(l.length:Nat),λ_=>ar,l.length,λ_=>⟨rfl,show l.length<(f.L.d.l.getD k dK).l.length by omega⟩,?_⟩
  refine⟨λh3=>?_,λh3=>⟨[],bOs _ q (q2.le) (q1.le),rfl,rfl,rfl,λ_ _=>⟨λh4=>absurd rfl h4,λh4=>aA gT mxd ⟨0,λ_=>⟨rfl,ln2⟩,⟨λh5=>?_,λh5=>aA gT mxd ⟨(k+1:Nat),wi,cH hM (chg:=λk:Nat=>wfG n k) (bls:=λ_=>[(85,0,f.C),(3,0,[iC n]),(62,0,q.C)]) (fls:=λ_=>[]) (k+1) ⟨hkn,show n-(k+1)<n-k by omega⟩ rfl ⟨rfl,rfl,rfl⟩ trivial ⟨rfl,rfl,rfl,rfl⟩ bL (aB rfl (aB rfl (aB rfl bJ))) rfl⟩⟩⟩⟩⟩⟩
  ·replace h3:(((f.L.d.l.getD k dK).l.length:Nat):Int)=0\/((f.L.d.l.getD k dK).l.getD l.length default).ix≠(k:Nat):=h3
   omega
  replace h5:(((f.U.d.l.getD k dK).l.length:Nat):Int)=0\/((f.U.d.l.getD k dK).l.getD 0 default).ix≠(k:Nat):=h5
  omega
 exact aA gT mxd ⟨(),trivial,aO rfl rfl trivial⟩
abbrev aZu:FuncId:=170
theorem bWy:Ent Tryz.prog aZu:=aV func170 rfl kR
theorem bWz:Tryz.prog.funcs[aZu]? =some Tryz.f170:=func170
theorem bXa (f:LuM) (b:Sl RatM) {M:Nat->List En} {n F:Nat} {rw cl:Nat->Nat} {Lw Up:Nat->List En} (h:LuG f M n rw cl Lw Up F) (hF:F<=4398046511104) (h1:1<=F) (hn:n<=4096) (hb:b.l.length=n):Ctr Tryz.prog aZu [] [.a f.C,.c (fZ b)] [] (λ_:Unit=>⟨.c (iC 0),[],True⟩):=by
 have hR:f.R.l.length=n:=by rw[h.R];simp
 have hw:Ctr Tryz.prog bFs [] [.a f.C,.c (iC (f.R.l.length:Nat))] [] (λ_:Unit=>⟨.c (.v (.bool true)),[],True⟩):=by rw[hR];exact cBr f h hF h1 hn
 refine bE gT bWy bWz rfl rfl rfl bL aT (aA gT mxd ?_)
 refine⟨[],hw,rfl,rfl,rfl,λ_ _=>⟨λh2=>?_,λ_=>aA gT mxd ⟨(),trivial,aO rfl rfl trivial⟩⟩⟩
 replace h2:¬((b.l.length:Nat):Int)=(f.R.l.length:Nat):=h2
 omega
def fwd (lo:Nat->List En) (b:Nat->Rat):Nat->Nat->Rat
 |0=>λ_=>0
 |i+1=>upd (fwd lo b i) i (b i-dtl (lo i) (fwd lo b i))
theorem aFz {lo:Nat->List En} {b:Nat->Rat}:∀{n:Nat},(∀k,k<n->VOk (lo k) (k:Nat))->∀k,k<n->fwd lo b n k=b k-dtl (lo k) (fwd lo b n)
 |0,_,k,h=>absurd h (aM _)
 |n+1,h,k,hk=>by
  have hc:dtl (lo k) (fwd lo b (n+1))=dtl (lo k) (fwd lo b n):=lJ λe he=>by
   have:=(h k hk).2 e he
   exact bK oM
  rw[hc]
  by_cases e:k=n
  ·subst e;exact bP
  show upd _ n _ k=_
  rw[bK e,aFz (λk hk=>h k oM) k oM]
theorem bFt {lo:Nat->List En} {b w:Nat->Rat} {n:Nat} (h:∀k,k<n->VOk (lo k) (k:Nat)):(∀k,k<n->dtl (lo k) w+w k=b k)↔∀k,k<n->w k=fwd lo b n k:=by
 constructor
 ·intro hw k
  induction k using Nat.strongRecOn with
  |ind k ih=>
   intro hk
   rw[aFz h k hk,<-lJ (x:=w) λe he=>by
    have:=(h k hk).2 e he
    exact ih e.1.toNat oM oM]
   have:=hw k hk
   grind
 intro hw k hk
 rw[hw k hk,lJ (y:=fwd lo b n) λe he=>by
  have:=(h k hk).2 e he
  exact hw e.1.toNat oM,aFz h k hk]
 grind
def bwd (us:Nat->List En) (p:Nat->Rat) (n:Nat) (z:Nat->Rat):Nat->Nat->Rat
 |0=>z
 |k+1=>upd (bwd us p n z k) (n-1-k) ((bwd us p n z k (n-1-k)-dtl (us (n-1-k)) (bwd us p n z k))/p (n-1-k))
theorem aMe {us:Nat->List En} {p z:Nat->Rat} {n:Nat} (h:∀i,i<n->∀e∈us i,(i:Int)<e.1/\e.1<(n:Nat)):∀k,k<=n->(∀i,i<n-k->bwd us p n z k i=z i)/\∀i,n-k<=i->i<n->bwd us p n z k i=(z i-dtl (us i) (bwd us p n z k))/p i
 |0,_=>⟨λi _=>rfl,λi h1 h2=>by omega⟩
 |k+1,hk=>by
  obtain⟨h1,h2⟩:=aMe h k oM
  have hc:∀i,n-1-k<=i->i<n->dtl (us i) (bwd us p n z (k+1))=dtl (us i) (bwd us p n z k):=λi hi hin=>lJ λe he=>by
   have:=h i hin e he
   exact bK oM
  refine⟨λi hi=>?_,λi hi hin=>?_⟩
  ·show upd _ _ _ i=_
   rw[bK oM];exact h1 i oM
  rw[hc i oM hin]
  show upd _ _ _ i=_
  by_cases e:i=n-1-k
  ·subst e;rw[bP,h1 _ oM]
  rw[bK e];exact h2 i oM hin
theorem bFu {us:Nat->List En} {p y z:Nat->Rat} {n:Nat} (h:∀i,i<n->∀e∈us i,(i:Int)<e.1/\e.1<(n:Nat)) (hp:∀i,i<n->p i≠0):(∀i,i<n->p i*y i+dtl (us i) y=z i)↔∀i,i<n->y i=bwd us p n z n i:=by
 have he:=λi (hi:i<n)=>(aMe (p:=p) (z:=z) h n (aF n)).2 i oM hi
 constructor
 ·intro hy
  have key:∀d i,i<n->n-i=d->y i=bwd us p n z n i:=λd=>by
   induction d using Nat.strongRecOn with
   |ind d ih=>
    intro i hi hd
    rw[he i hi,<-lJ (x:=y) λe hm=>by
     have:=h i hi e hm
     exact ih (n-e.1.toNat) oM e.1.toNat oM rfl,<-hy i hi]
    have:=hp i hi
    rw[iE,Rat.add_comm,iO]
    have e1:dtl (us i) y+p i*y i+ -dtl (us i) y=y i*p i:=by grind
    rw[e1,oD,iP _ this,kZ]
  exact λi hi=>key _ i hi rfl
 intro hy i hi
 rw[hy i hi,lJ (y:=bwd us p n z n) λe hm=>by
  have:=h i hi e hm
  exact hy e.1.toNat oM]
 rw[he i hi,iE]
 have:=hp i hi
 have e1:p i*((z i-dtl (us i) (bwd us p n z n))*(p i)⁻¹)=(z i-dtl (us i) (bwd us p n z n))*(p i*(p i)⁻¹):=by grind
 rw[e1,iP _ this,kZ]
 grind
def Sol (M:Nat->List En) (n:Nat) (b xv:Nat->Rat):Prop:=∀x:Nat->Rat,(∀k,k<n->dtn n (M k) x=b k)↔∀c,c<n->x c=xv c
structure LuP (n:Nat) (Lw Up lo us:Nat->List En) (p:Nat->Rat):Prop where
 lo:∀k,k<n->Lw k=lo k++[((k:Int),1)]/\VOk (lo k) (k:Nat)
 us:∀k,k<n->Up k=((k:Int),p k)::us k/\(∀e∈us k,(k:Int)<e.1/\e.1<(n:Nat))/\(us k).length<=n-1-k
 p:∀k,k<n->p k≠0
theorem LuOk.parts {M:Nat->List En} {n:Nat} {rw cl:Nat->Nat} {Lw Up:Nat->List En} (h:LuOk M n rw cl Lw Up):∃lo us p,LuP n Lw Up lo us p:=by
 refine⟨λk=>(Lw k).dropLast,λk=>(Up k).tail,λk=>((Up k).headD default).2,λk hk=>?_,λk hk=>?_,λk hk=>?_⟩
 ·obtain⟨l,h1,h2⟩:=h.low k hk
  show Lw k=(Lw k).dropLast++_/\VOk (Lw k).dropLast _
  rw[h1,List.dropLast_concat];exact⟨rfl,h2⟩
 ·obtain⟨p,u,h1,h2⟩:=h.up k hk
  show Up k=(_,((Up k).headD default).2)::(Up k).tail/\_
  rw[h1] at h2 ⊢
  have hin:∀e∈u,(k:Int)<e.1/\e.1<(n:Nat):=λe he=>⟨h2.1.head e he,(h2.2 e (.tail _ he)).2.1⟩
  refine⟨rfl,hin,?_⟩
  have h3:(u.map λe:En=>(e.1-(k:Int)-1).toNat).Nodup:=by
   rw[cQ,gE]
   refine h2.1.tail.imp_of_mem λ{a b} ha hb hab he=>?_
   have:=hin a ha
   have:=hin b hb
   have:a.1<b.1:=hab
   omega
  have:=oN (n:=n-1-k) h3 λi hi=>by
   obtain⟨e,he,rfl⟩:=bT.1 hi
   have:=hin e he
   omega
  rwa [aU] at this
 obtain⟨p,u,h1,h2⟩:=h.up k hk
 show((Up k).headD default).2≠0
 rw[h1] at h2 ⊢
 exact(h2.2 _ (.head _)).2.2
theorem LuOk.sol {M:Nat->List En} {n:Nat} {rw cl:Nat->Nat} {Lw Up lo us:Nat->List En} {p:Nat->Rat} (h:LuOk M n rw cl Lw Up) (hP:LuP n Lw Up lo us p) {b xv:Nat->Rat} (hx:∀i,i<n->xv (cl i)=bwd us p n (fwd lo (λi=>b (rw i)) n) n i):Sol M n b xv:=λx=>by
 have hU:∀k,k<n->dtn n (Up k) (λi=>x (cl i))=p k*x (cl k)+dtl (us k) (λi=>x (cl i)):=λk hk=>by
  obtain⟨h1,h2,_⟩:=hP.us k hk
  rw[<-zV λe he=>by
   rw[h1] at he
   rcases aW.1 he with rfl|he
   ·exact⟨by show(0:Int)<=(k:Nat);omega,by show(k:Int)<(n:Nat);omega⟩
   have:=h2 e he;exact⟨by omega,this.2⟩,h1]
  rfl
 have hL:∀k,k<n->∀w,dtl (Lw k) w=dtl (lo k) w+w k:=λk hk w=>by
  rw[(hP.lo k hk).1,uD]
  show _+(1:Rat)*w k=_
  rw[uR]
 have e1:(∀k,k<n->dtn n (M k) x=b k)↔∀k,k<n->dtl (lo k) (λj=>dtn n (Up j) λi=>x (cl i))+dtn n (Up k) (λi=>x (cl i))=b (rw k):=by
  constructor
  ·intro hh k hk
   rw[<-hL k hk,<-h.eq k hk]
   exact hh _ (h.rlt k hk)
  intro hh k hk
  obtain⟨j,hj,rfl⟩:=sV h.rlt h.rinj k hk
  rw[h.eq j hj,hL j hj]
  exact hh j hj
 have e2:=bFt (b:=λi=>b (rw i)) (w:=λj=>dtn n (Up j) λi=>x (cl i)) λk hk=>(hP.lo k hk).2
 have e3:=bFu (y:=λi=>x (cl i)) (z:=fwd lo (λi=>b (rw i)) n) (λi hi=>(hP.us i hi).2.1) hP.p
 rw[e1]
 refine e2.trans ⟨λhh=>?_,λhh k hk=>?_⟩
 ·have h4:=e3.1 λi hi=>by rw[<-hh i hi];exact(hU i hi).symm
  intro c hc
  obtain⟨j,hj,rfl⟩:=sV h.clt h.cinj c hc
  rw[hx j hj];exact h4 j hj
 have h4:=e3.2 λi hi=>(hh _ (h.clt i hi)).trans (hx i hi)
 exact(hU k hk).trans (h4 k hk)
def zb (B F:Nat):Nat->Nat
 |0=>B
 |i+1=>zb B F i+i*(F+zb B F i+1)
theorem aZv {B F k n:Nat} (h:k<=n):zb B F k<=zb B F n:=by
 induction h with
 |refl=>exact aF _
 |step _ ih=>exact aH ih (rY _ _)
def yb (Z F:Nat):Nat->Nat
 |0=>Z
 |k+1=>yb Z F k+k*(F+yb Z F k+1)+F
theorem aZw {Z F k n:Nat} (h:k<=n):yb Z F k<=yb Z F n:=by
 induction h with
 |refl=>exact aF _
 |step _ ih=>exact aH ih (by show _<=yb Z F _+_+F;omega)
theorem yU {P Q:Nat->List CV} (h:∀j,(P j).length=(Q j).length/\∀(k:Nat) (c c':CV),(P j)[k]? =some c->(Q j)[k]? =some c'->LeC c c'):∀n,(flatR n P).length=(flatR n Q).length/\∀(k:Nat) (c c':CV),(flatR n P)[k]? =some c->(flatR n Q)[k]? =some c'->LeC c c'
 |0=>⟨rfl,λk c c' h1=>by cases h1⟩
 |n+1=>by
  obtain⟨i1,i2⟩:=yU h n
  obtain⟨j1,j2⟩:=h n
  rw[fX,fX]
  refine⟨by rw[aJ,aJ,i1,j1],λk c c' h1 h2=>?_⟩
  by_cases hk:k<(flatR n P).length
  ·rw[bO hk] at h1
   rw[bO oM] at h2
   exact i2 k c c' h1 h2
  rw[bV oM] at h1
  rw[bV oM,<-i1] at h2
  exact j2 _ c c' h1 h2
theorem aGa {n:Nat}:(flatR n λ_=>(default:RatM).C).length=((List.replicate n sS).flatten).length/\∀(k:Nat) (c c':CV),((List.replicate n sS).flatten)[k]? =some c->(flatR n λ_=>(default:RatM).C)[k]? =some c'->LeC c c':=by
 obtain⟨h1,h2⟩:=yU (P:=λ_=>sS) (Q:=λ_=>(default:RatM).C) (λ_=>⟨rfl,aIk⟩) n
 rw[<-zP]
 exact⟨h1.symm,h2⟩
abbrev rtC (n:Nat) (Z:Nat->RatM):List CV:=flatR n λj=>(Z j).C
theorem jX {n k:Nat} {Z:Nat->RatM} (h:k<n):k*3<(rtC n Z).length:=aLk (λ_=>rfl) h
theorem nU {n k:Nat} {Z:Nat->RatM} (h:k<n):((rtC n Z).drop (k*3)).take 3=(Z k).C/\(Z k).C.length=3:=bNc (λ_=>rfl) h rfl
theorem sW {n k:Nat} {Z:Nat->RatM} {g:RatM} (h:k<n):kD (rtC n Z) (k*3) g.C=rtC n (upd Z k g)/\k*3+g.C.length<=(rtC n Z).length:=aFp (λ_=>rfl) h rfl λj _=>by
 by_cases e:j=k
 ·subst e;rw[if_pos rfl,bP]
 rw[if_neg e,bK e]
theorem kP {n:Nat} {Z:Nat->RatM}:∀c∈rtC n Z,fB c=true:=vW (λ_=>gJ _) n
abbrev aMf (f:LuM) (n:Nat) (Z:Nat->RatM):BL:=[(85,0,f.C),(62,3,rtC n Z)]
theorem zW {f:LuM} {n:Nat} {Z:Nat->RatM}:scB 2 (aMf f n Z):=aB rfl (aB (cI kP) bJ)
abbrev bFv (b:Sl RatM) (n i:Nat):List (Nat×DV):=[(31,.c (iC i)),(30,.c (iC n)),(1,.c (fZ b)),(2,.c (.p 0 0)),(7,.c (iC n)),(8,.c (.s 1 n))]
abbrev bPd (b:Sl RatM) (n i:Nat) (A:Option Addr) (c m:Nat) (row:Sl EntM) (t:Nat):List (Nat×DV):=(57,.c (iC t))::(55,.c (.r A m c 4 λj=>(row.l.getD j default).C))::(56,.c (iC m))::(9,.c (iC i))::bFv b n i
abbrev aMg (f:LuM) (n:Nat) (Z X:Nat->RatM):BL:=[(85,0,f.C),(62,3,rtC n Z),(62,3,rtC n X)]
theorem zX {f:LuM} {n:Nat} {Z X:Nat->RatM}:scB 3 (aMg f n Z X):=aB rfl (aB (cI kP) (aB (cI kP) bJ))
abbrev bFw (n k:Nat):List (Nat×DV):=[(81,.c (iC k)),(80,.c (iC n)),(2,.c (.p 0 0)),(7,.c (iC n)),(8,.c (.s 1 n)),(13,.c (.s 2 n))]
abbrev bPe (n k i:Nat) (A:Option Addr) (c m:Nat) (row:Sl EntM) (t:Nat):List (Nat×DV):=(97,.c (iC t))::(95,.c (.r A m c 4 λj=>(row.l.getD (j+1) default).C))::(96,.c (iC m))::(15,.c (iC i))::(16,.c (bR row))::bFw n k
theorem aZx {f:Nat->Nat} {n:Nat} (_:∀j,j<n->f j<n) (hi:∀i j,i<n->j<n->f i=f j->i=j) (y:Nat->Rat):∃x:Nat->Rat,∀j,j<n->x (f j)=y j:=by
 classical
 refine⟨λc=>if h:∃j,j<n/\f j=c then y h.choose else 0,λj hj=>?_⟩
 have h:∃j',j'<n/\f j'=f j:=⟨j,hj,rfl⟩
 show(if h:∃j',j'<n/\f j'=f j then y h.choose else 0)=y j
 rw[dif_pos h]
 exact congrArg y (hi _ _ h.choose_spec.1 hj h.choose_spec.2)
theorem swl {i j:Nat} {l:List CV} (h:∀c∈l,fB c=true):l.map (swC i j)=l:=(dW λc hc=>aK c (h c hc)).trans (List.map_id _)
theorem aBw (a:Rat):a-0=a:=by grind
abbrev aGb:FuncId:=107
theorem bFx:Ent Tryz.prog aGb:=aV func107 rfl kR
theorem bFy:Tryz.prog.funcs[aGb]? =some Tryz.f107:=func107
theorem aZy (f:LuM) (b:Sl RatM) {M:Nat->List En} {n F B:Nat} {rw cl:Nat->Nat} {Lw Up:Nat->List En} {bv:Nat->Rat} (h:LuG f M n rw cl Lw Up F) (h1:1<=F) (hn:n<=4096) (hb:b.l.length=n) (hbv:∀k,k<n->Cr (b.l.getD k default) (bv k)/\rb (bv k) B) (h1B:1<=B) (hF:F<=4398046511104) (hB:yb (zb B F n) F n<=4398046511104):
 Ctr Tryz.prog aGb [true] [.a f.C,.c (fZ b)] [] (λg:(Nat->RatM)×(Nat->Rat)=>⟨.t [.c (.s 0 n),.c (iC 0)],[(62,3,rtC n g.1)],Sol M n bv g.2/\∀c,c<n->Cr (g.1 c) (g.2 c)/\rb (g.2 c) (yb (zb B F n) F n)⟩):=by
 obtain⟨lo,us,p,hP⟩:=h.o.parts
 have hZB:zb B F n<=4398046511104:=aH (aZw (aC n)) hB
 have hR:f.R.l.length=n:=by rw[h.R];simp
 have hRi:((f.R.l.length:Nat):Int)=(n:Nat):=by rw[hR]
 have hRc:iC (f.R.l.length:Nat)=iC (n:Nat):=by rw[hR]
 obtain⟨ζ,hζ⟩:∃ζ,ζ=fwd lo (λi=>bv (rw i)) n:=⟨_,rfl⟩
 have eζ:∀k,k<n->ζ k=bv (rw k)-dtl (lo k) ζ:=λk hk=>by rw[hζ];exact aFz (b:=λi=>bv (rw i)) (λk hk=>(hP.lo k hk).2) k hk
 refine bE gT bFx bFy rfl rfl rfl bL (λi T es l hi=>by cases hi) (aA gT mxd ⟨[],bXa f b h hF h1 hn hb,rfl,rfl,rfl,λ_ _=>⟨λhh=>absurd rfl hh,λ_=>aA gT mxd ⟨n,⟨hRi,hRi,by show 56*n<=_;omega,by simp only[maxLen];omega⟩,?_⟩⟩⟩)
 show Sd _ _ _ _ _ _
 refine iS tSd 1 (rtC n λ_=>default) rfl aGa.1 aGa.2 ?_
 refine dR (λ_=>true) (λg:Nat×(Nat->RatM)=>bFv b n g.1) (λg=>aMf f n g.2) (λ_=>[]) (λg=>g.1<=n/\∀j,j<g.1->Rq (g.2 j) (ζ j) (zb B F g.1)) (λg=>n-g.1) λhM=>⟨cH hM (chg:=λg:Nat×(Nat->RatM)=>bFv b n g.1) (bls:=λg=>aMf f n g.2) (fls:=λ_=>[]) (0,λ_=>default) ⟨aC _,λj hj=>absurd hj (aM _)⟩ rfl ⟨rfl,rfl⟩ trivial ⟨rfl,hRi,rfl,rfl,hRi,rfl⟩ bL zW rfl,λ⟨i,Z⟩ ⟨hi,hZ⟩=>aA gT mxd ⟨λh2=>aA gT mxd ?_,λh2=>aA gT mxd ?_⟩⟩
 all_goals
  replace hi:i<=n:=hi
  replace hZ:∀j,j<i->Rq (Z j) (ζ j) (zb B F i):=hZ
 ·replace h2:(i:Int)<(n:Nat):=h2
  have hin:i<n:=by omega
  have hri:=h.o.rlt i hin
  have hix:f.R.l.getD i 0=(rw i:Nat):=by rw[h.R];exact yT hin
  have lL:=h.L.ln
  have eL:=h.L.row i hin
  obtain⟨hl,hvl⟩:=hP.lo i hin
  have ln1:(f.L.d.l.getD i dK).l.length=(lo i).length+1:=by rw[eL.ln,hl];simp
  have hll:=kO hvl
  refine⟨i,⟨rfl,show i<f.R.l.length by omega⟩,rw i,⟨hix,show rw i<b.l.length by omega⟩,i,⟨rfl,hin,jX hin⟩,_,sW hin,i,⟨rfl,show i<f.L.d.l.length by omega⟩,((lo i).length:Nat),wi (by show(((lo i).length:Nat):Int)=(((f.L.d.l.getD i dK).l.length:Nat):Int)-1/\_<=(((f.L.d.l.getD i dK).l.length:Nat):Int)-1/\(((f.L.d.l.getD i dK).l.length:Nat):Int)-1<=_;omega),(lo i).length,⟨rfl,show(lo i).length<=(f.L.d.l.getD i dK).l.length by omega⟩,?_⟩
  obtain⟨row,hrow⟩:∃row,row=f.L.d.l.getD i dK:=⟨_,rfl⟩
  rw[<-hrow] at eL ln1
  show Sd _ _ _ _ _ _
  refine dR (λ_=>true) (λg:Nat×(Nat->RatM)=>bPd b n i row.A row.c (lo i).length row g.1) (λg=>aMf f n g.2) (λ_=>[]) (λg=>g.1<=(lo i).length/\(∀j,j<i->Rq (g.2 j) (ζ j) (zb B F i))/\Rq (g.2 i) (bv (rw i)-dtl ((lo i).take g.1) ζ) (B+g.1*(F+zb B F i+1))/\rb (bv (rw i)-dtl ((lo i).take g.1) ζ) (B+g.1*(F+zb B F i+1))) (λg=>(lo i).length-g.1) λhM2=>⟨cH hM2 (chg:=λg:Nat×(Nat->RatM)=>bPd b n i row.A row.c (lo i).length row g.1) (bls:=λg=>aMf f n g.2) (fls:=λ_=>[]) (0,upd Z i (b.l.getD (rw i) default)) ⟨aC _,λj hj=>?_,?_,?_⟩ rfl ⟨rfl,rfl⟩ trivial ?_ bL zW rfl,λ⟨t,Z'⟩ ⟨ht,hZ',hq,hqr⟩=>aA gT mxd ⟨λh3=>aA gT mxd ?_,λh3=>aA gT mxd ?_⟩⟩
  ·show Rq (upd Z i _ j) _ _
   rw[bK oM];exact hZ j hj
  ·show Rq (upd Z i _ i) (bv (rw i)-0) (B+0*(F+zb B F i+1))
   rw[bP,aBw,nK]
   exact Cr.rq (hbv _ hri).1 (hbv _ hri).2
  ·show rb (bv (rw i)-0) (B+0*(F+zb B F i+1))
   rw[aBw,nK]
   exact(hbv _ hri).2
  ·exact⟨rfl,by rw[hrow];rfl,rfl,rfl,rfl,rfl,rfl,rfl,rfl,rfl⟩
  all_goals
   replace ht:t<=(lo i).length:=ht
   replace hZ':∀j,j<i->Rq (Z' j) (ζ j) (zb B F i):=hZ'
   replace hq:Rq (Z' i) (bv (rw i)-dtl ((lo i).take t) ζ) (B+t*(F+zb B F i+1)):=hq
   replace hqr:rb (bv (rw i)-dtl ((lo i).take t) ζ) (B+t*(F+zb B F i+1)):=hqr
   have hb1:B<=zb B F i:=aZv (aC i)
   have hb2:zb B F (i+1)<=4398046511104:=aH (aZv hin) hZB
   have hb3:zb B F (i+1)=zb B F i+i*(F+zb B F i+1):=rfl
  ·replace h3:(t:Int)<((lo i).length:Nat):=h3
   have htl:t<(lo i).length:=by omega
   have hb4:(t+1)*(F+zb B F i+1)<=i*(F+zb B F i+1):=bF _ oM
   rw[eA] at hb4
   have e0:=hvl.2 _ (gW htl)
   have er:=eL.e t (by rw[hl];simp;omega)
   rw[show(Lw i).getD t default=(lo i).getD t default by rw[hl,aZ,bO htl,aZ]] at er
   obtain⟨j0,hj0⟩:∃j0:Nat,((lo i).getD t default).1=(j0:Nat):=⟨((lo i).getD t default).1.toNat,by omega⟩
   have hji:j0<i:=by omega
   have hix0:(row.l.getD t default).ix=(j0:Nat):=er.1.trans hj0
   have hev:rb ((lo i).getD t default).2 F:=h.bl i hin _ (by rw[hl];exact cP _ (gW htl))
   have hz0:=hZ' j0 hji
   have hm:=kN hev (hz0.rb oM)
   have hd:bv (rw i)-dtl ((lo i).take (t+1)) ζ=bv (rw i)-dtl ((lo i).take t) ζ-((lo i).getD t default).2*ζ j0:=by
    rw[yI htl,uD,hj0,bU];grind
   have hs:=xE hqr hm
   rw[<-hd] at hs
   have hs':rb (bv (rw i)-dtl ((lo i).take (t+1)) ζ) (B+(t+1)*(F+zb B F i+1)):=hs.le (by rw[eA];omega)
   have hk:=aOm (Z' i) (row.l.getD t default).v (Z' j0) (B:=B+(t+1)*(F+zb B F i+1)) (hq.le oM) ((Cr.rq er.2 hev).le) (hz0.le oM) (hm.le oM) (by rw[<-hd];exact hs') (hq.le (by rw[eA];omega))
   rw[<-hd] at hk
   refine⟨t,⟨rfl,htl⟩,.seq ((List.range 16).map λi=>(i,i==15)),by kernel_rfl,i,⟨rfl,hin,jX hin⟩,_,nU hin,j0,⟨hix0,by omega,jX oM⟩,_,nU oM,[],hk,rfl,rfl,rfl,λg hg=>⟨i,⟨rfl,hin,jX hin⟩,_,sW hin,(t+1:Nat),wi,cH hM2 (chg:=λg:Nat×(Nat->RatM)=>bPd b n i row.A row.c (lo i).length row g.1) (bls:=λg=>aMf f n g.2) (fls:=λ_=>[]) (t+1,upd Z' i g) ⟨⟨htl,λj hj=>?_,?_,hs'⟩,show(lo i).length-(t+1)<(lo i).length-t by omega⟩ rfl ⟨rfl,rfl⟩ trivial ⟨rfl,rfl,rfl,rfl,rfl,rfl,rfl,rfl,rfl,rfl⟩ bL zW rfl⟩⟩
   ·show Rq (upd Z' i g j) _ _
    rw[bK oM];exact hZ' j hj
   show Rq (upd Z' i g i) _ _
   rw[bP];exact hg
  replace h3:¬(t:Int)<((lo i).length:Nat):=h3
  obtain rfl:t=(lo i).length:=by omega
  have hb4:(lo i).length*(F+zb B F i+1)<=i*(F+zb B F i+1):=bF _ hll
  rw[cU,<-eζ i hin] at hq
  refine⟨(i+1:Nat),wi,cH hM (chg:=λg:Nat×(Nat->RatM)=>bFv b n g.1) (bls:=λg=>aMf f n g.2) (fls:=λ_=>[]) (i+1,Z') ⟨⟨hin,λj hj=>?_⟩,show n-(i+1)<n-i by omega⟩ rfl ⟨rfl,rfl⟩ trivial ⟨rfl,rfl,rfl,rfl,rfl,rfl⟩ bL zW rfl⟩
  replace hj:j<i+1:=hj
  show Rq (Z' j) (ζ j) (zb B F (i+1))
  by_cases e:j=i
  ·subst e;exact hq.le oM
  exact(hZ' j oM).le oM
 replace h2:¬(i:Int)<(n:Nat):=h2
 obtain rfl:n=i:=by omega
 obtain⟨y,hy⟩:∃y,y=bwd us p n ζ n:=⟨_,rfl⟩
 have ey:∀k,k<n->y k=(ζ k-dtl (us k) y)/p k:=λk hk=>by rw[hy];exact(aMe (λi hi=>(hP.us i hi).2.1) n (aF n)).2 k oM hk
 obtain⟨ZB,hZe⟩:∃ZB,ZB=zb B F n:=⟨_,rfl⟩
 rw[<-hZe] at hZ hB hZB
 have hZ1:1<=ZB:=by rw[hZe];exact aH h1B (aZv (aC n))
 refine aA gT mxd ⟨n,⟨rfl,rfl,by show 56*n<=_;omega,by simp only[maxLen];omega⟩,?_⟩
 show Sd _ _ _ _ _ _
 refine iS tSd 2 (rtC n λ_=>default) rfl aGa.1 aGa.2 ?_
 refine dR (λ_=>true) (λg:Nat×(Nat->RatM)×(Nat->RatM)=>bFw n g.1) (λg=>aMg f n g.2.1 g.2.2) (λ_=>[]) (λg=>g.1<=n/\(∀j,j<n-g.1->Rq (g.2.1 j) (ζ j) ZB)/\(∀j,n-g.1<=j->j<n->Rq (g.2.1 j) (y j) (yb ZB F g.1))/\∀j,n-g.1<=j->j<n->Cr (g.2.2 (cl j)) (y j)/\rb (y j) (yb ZB F g.1)) (λg=>n-g.1) λhM=>⟨cH hM (chg:=λg:Nat×(Nat->RatM)×(Nat->RatM)=>bFw n g.1) (bls:=λg=>aMg f n g.2.1 g.2.2) (fls:=λ_=>[]) (0,Z,λ_=>default) ⟨aC _,λj hj=>hZ j hj,λj h4 h5=>absurd h4 (by show ¬n-0<=j;omega),λj h4 h5=>absurd h4 (by show ¬n-0<=j;omega)⟩ rfl ⟨rfl,rfl,rfl⟩ trivial ⟨rfl,rfl,rfl,rfl,rfl,rfl⟩ bL zX rfl,λ⟨k,Z,X⟩ ⟨hk,hZ,hY,hX⟩=>aA gT mxd ⟨λh2=>aA gT mxd ?_,λh2=>aA gT mxd ?_⟩⟩
 all_goals
  replace hk:k<=n:=hk
  replace hZ:∀j,j<n-k->Rq (Z j) (ζ j) ZB:=hZ
  replace hY:∀j,n-k<=j->j<n->Rq (Z j) (y j) (yb ZB F k):=hY
  replace hX:∀j,n-k<=j->j<n->Cr (X (cl j)) (y j)/\rb (y j) (yb ZB F k):=hX
 ·replace h2:(k:Int)<(n:Nat):=h2
  have hkn:k<n:=by omega
  obtain⟨i,hi⟩:∃i,i=n-1-k:=⟨_,rfl⟩
  have hin:i<n:=by omega
  have hci:=h.o.clt i hin
  have hix:f.K.l.getD i 0=(cl i:Nat):=by rw[h.K];exact yT hin
  have hK:f.K.l.length=n:=by rw[h.K];simp
  have lU:=h.U.ln
  have eU:=h.U.row i hin
  obtain⟨hu,hui,hul⟩:=hP.us i hin
  have hpi:=hP.p i hin
  have ln1:(f.U.d.l.getD i dK).l.length=(us i).length+1:=by rw[eU.ln,hu];simp
  have a1:((n-1:Nat):Int)=IntKind.i64.wrap ((n:Nat)-1):=wi oM
  have a2:(i:Int)=IntKind.i64.wrap (((n-1:Nat):Int)-(k:Nat)):=wi oM
  refine⟨(n-1:Nat),a1,(i:Nat),a2,i,⟨rfl,show i<f.U.d.l.length by omega⟩,1,⟨rfl,show 1<=(f.U.d.l.getD i dK).l.length by omega⟩,?_⟩
  obtain⟨row,hrow⟩:∃row,row=f.U.d.l.getD i dK:=⟨_,rfl⟩
  rw[<-hrow] at eU ln1
  have hlen:(f.U.d.l.getD i dK).l.length-1=(us i).length:=by rw[<-hrow];omega
  have hsz:(((f.U.d.l.getD i dK).l.length-1:Nat):Int)=((us i).length:Nat):=by rw[hlen]
  have hsl:CV.r (slA (f.U.d.l.getD i dK).A (f.U.d.l.getD i dK).c 1 4) ((f.U.d.l.getD i dK).l.length-1) ((f.U.d.l.getD i dK).c-1) 4 (λj=>((f.U.d.l.getD i dK).l.getD (j+1) default).C)= .r (slA row.A row.c 1 4) (us i).length (row.c-1) 4 λj=>(row.l.getD (j+1) default).C:=by rw[hlen,hrow]
  show Sd _ _ _ _ _ _
  refine dR (λ_=>true) (λg:Nat×(Nat->RatM)=>bPe n k i (slA row.A row.c 1 4) (row.c-1) (us i).length row g.1) (λg=>aMg f n g.2 X) (λ_=>[]) (λg=>g.1<=(us i).length/\(∀j,j<i->Rq (g.2 j) (ζ j) ZB)/\(∀j,i<j->j<n->Rq (g.2 j) (y j) (yb ZB F k))/\Rq (g.2 i) (ζ i-dtl ((us i).take g.1) y) (ZB+g.1*(F+yb ZB F k+1))/\rb (ζ i-dtl ((us i).take g.1) y) (ZB+g.1*(F+yb ZB F k+1))) (λg=>(us i).length-g.1) λhM2=>⟨cH hM2 (chg:=λg:Nat×(Nat->RatM)=>bPe n k i (slA row.A row.c 1 4) (row.c-1) (us i).length row g.1) (bls:=λg=>aMg f n g.2 X) (fls:=λ_=>[]) (0,Z) ⟨aC _,λj hj=>hZ j oM,λj h4 h5=>hY j oM h5,?_,?_⟩ rfl ⟨rfl,rfl,rfl⟩ trivial ?_ bL zX rfl,λ⟨t,Z'⟩ ⟨ht,hZ',hY',hq,hqr⟩=>aA gT mxd ⟨λh3=>aA gT mxd ?_,λh3=>aA gT mxd ?_⟩⟩
  ·show Rq (Z i) (ζ i-0) (ZB+0*(F+yb ZB F k+1))
   rw[aBw,nK]
   exact hZ i oM
  ·show rb (ζ i-0) (ZB+0*(F+yb ZB F k+1))
   rw[aBw,nK]
   exact(hZ i oM).rb hZ1
  ·exact⟨rfl,hsl,hsz,rfl,congrArg bR hrow.symm,rfl,rfl,rfl,rfl,rfl,rfl⟩
  all_goals
   replace ht:t<=(us i).length:=ht
   replace hZ':∀j,j<i->Rq (Z' j) (ζ j) ZB:=hZ'
   replace hY':∀j,i<j->j<n->Rq (Z' j) (y j) (yb ZB F k):=hY'
   replace hq:Rq (Z' i) (ζ i-dtl ((us i).take t) y) (ZB+t*(F+yb ZB F k+1)):=hq
   replace hqr:rb (ζ i-dtl ((us i).take t) y) (ZB+t*(F+yb ZB F k+1)):=hqr
   have hb1:ZB<=yb ZB F k:=aZw (F:=F) (aC k)
   have hb2:yb ZB F (k+1)<=4398046511104:=aH (aZw hkn) hB
   have hb3:yb ZB F (k+1)=yb ZB F k+k*(F+yb ZB F k+1)+F:=rfl
  ·replace h3:(t:Int)<((us i).length:Nat):=h3
   have htl:t<(us i).length:=by omega
   have hb4:(t+1)*(F+yb ZB F k+1)<=k*(F+yb ZB F k+1):=bF _ oM
   rw[eA] at hb4
   have e0:=hui _ (gW htl)
   have er:=eU.e (t+1) (by rw[hu];simp;omega)
   rw[show(Up i).getD (t+1) default=(us i).getD t default by rw[hu];rfl] at er
   obtain⟨j0,hj0⟩:∃j0:Nat,((us i).getD t default).1=(j0:Nat):=⟨((us i).getD t default).1.toNat,by omega⟩
   have hij:i<j0:=by omega
   have hjn:j0<n:=by omega
   have hix0:(row.l.getD (t+1) default).ix=(j0:Nat):=er.1.trans hj0
   have hev:rb ((us i).getD t default).2 F:=h.bu i hin _ (by rw[hu];exact .tail _ (gW htl))
   have hz0:=hY' j0 hij hjn
   have hm:=kN hev (hz0.rb oM)
   have hd:ζ i-dtl ((us i).take (t+1)) y=ζ i-dtl ((us i).take t) y-((us i).getD t default).2*y j0:=by
    rw[yI htl,uD,hj0,bU];grind
   have hs:=xE hqr hm
   rw[<-hd] at hs
   have hs':rb (ζ i-dtl ((us i).take (t+1)) y) (ZB+(t+1)*(F+yb ZB F k+1)):=hs.le (by rw[eA];omega)
   have hk':=aOm (Z' i) (row.l.getD (t+1) default).v (Z' j0) (B:=ZB+(t+1)*(F+yb ZB F k+1)) (hq.le oM) ((Cr.rq er.2 hev).le) (hz0.le oM) (hm.le oM) (by rw[<-hd];exact hs') (hq.le (by rw[eA];omega))
   rw[<-hd] at hk'
   refine⟨t,⟨rfl,htl⟩,.seq ((List.range 16).map λi=>(i,i==15)),by kernel_rfl,i,⟨rfl,hin,jX hin⟩,_,nU hin,j0,⟨hix0,hjn,jX hjn⟩,_,nU hjn,[],hk',rfl,rfl,rfl,λg hg=>⟨i,⟨rfl,hin,jX hin⟩,_,sW hin,(t+1:Nat),wi,cH hM2 (chg:=λg:Nat×(Nat->RatM)=>bPe n k i (slA row.A row.c 1 4) (row.c-1) (us i).length row g.1) (bls:=λg=>aMg f n g.2 X) (fls:=λ_=>[]) (t+1,upd Z' i g) ⟨⟨htl,λj hj=>?_,λj h4 h5=>?_,?_,hs'⟩,show(us i).length-(t+1)<(us i).length-t by omega⟩ rfl ⟨rfl,rfl,rfl⟩ trivial ⟨rfl,rfl,rfl,rfl,rfl,rfl,rfl,rfl,rfl,rfl,rfl⟩ bL zX rfl⟩⟩
   ·show Rq (upd Z' i g j) _ _
    rw[bK oM];exact hZ' j hj
   ·show Rq (upd Z' i g j) _ _
    rw[bK oM];exact hY' j h4 h5
   show Rq (upd Z' i g i) _ _
   rw[bP];exact hg
  replace h3:¬(t:Int)<((us i).length:Nat):=h3
  obtain rfl:t=(us i).length:=by omega
  have hb4:(us i).length*(F+yb ZB F k+1)<=k*(F+yb ZB F k+1):=bF _ oM
  rw[cU] at hq hqr
  have e2:=eU.e 0 (by rw[hu];simp)
  rw[show(Up i).getD 0 default=((i:Int),p i) by rw[hu];rfl] at e2
  have hpb:rb (p i) F:=h.bu i hin ((i:Int),p i) (by rw[hu];exact .head _)
  have hpr:Rq (row.l.getD 0 default).v (p i) F:=Cr.rq e2.2 hpb
  have hpi':rb (p i)⁻¹ F:=hpr.flip.rb h1
  have hyr:rb (y i) (yb ZB F (k+1)):=by
   rw[ey i hin,iE]
   exact(kN hqr hpi').le oM
  refine aA gT mxd ?_
  refine⟨.seq ((List.range 16).map λi=>(i,i==15)),by kernel_rfl,i,⟨rfl,hin,jX hin⟩,_,nU hin,0,⟨rfl,show 0<row.l.length by omega⟩,[],aWs (Z' i) (row.l.getD 0 default).v (hq.le oM) (hpr.le) hpi,rfl,rfl,rfl,λg hg=>?_⟩
  replace hg:Cr g (y i):=by rw[ey i hin];exact hg
  have hgq:Rq g (y i) (yb ZB F (k+1)):=hg.rq hyr
  refine⟨i,⟨rfl,hin,jX hin⟩,_,sW hin,?_⟩
  refine⟨.seq ((List.range 12).map λi=>(i,i==11)),by kernel_rfl,i,⟨rfl,show i<f.K.l.length by omega⟩,i,⟨rfl,hin,jX hin⟩,_,nU hin,cl i,⟨hix,hci,jX hci⟩,_,sW hci,(k+1:Nat),wi,cH hM (chg:=λg:Nat×(Nat->RatM)×(Nat->RatM)=>bFw n g.1) (bls:=λg=>aMg f n g.2.1 g.2.2) (fls:=λ_=>[]) (k+1,upd Z' i g,upd X (cl i) (upd Z' i g i)) ⟨⟨hkn,λj hj=>?_,λj h4 h5=>?_,λj h4 h5=>?_⟩,show n-(k+1)<n-k by omega⟩ rfl ⟨rfl,rfl,rfl⟩ trivial ⟨rfl,rfl,rfl,rfl,rfl,rfl⟩ bL zX rfl⟩
  ·replace hj:j<n-(k+1):=hj
   show Rq (upd Z' i g j) _ _
   rw[bK oM];exact hZ' j oM
  ·replace h4:n-(k+1)<=j:=h4
   show Rq (upd Z' i g j) _ (yb ZB F (k+1))
   by_cases e:j=i
   ·subst e;rw[bP];exact hgq
   rw[bK e];exact(hY' j oM h5).le oM
  replace h4:n-(k+1)<=j:=h4
  show Cr (upd X (cl i) (upd Z' i g i) (cl j)) (y j)/\rb (y j) (yb ZB F (k+1))
  by_cases e:j=i
  ·subst e;rw[bP,bP];exact⟨hg,hyr⟩
  have e2:cl j≠cl i:=λe2=>e (h.o.cinj j i h5 hin e2)
  rw[bK e2]
  have:=hX j oM h5
  exact⟨this.1,this.2.le oM⟩
 replace h2:¬(k:Int)<(n:Nat):=h2
 obtain rfl:n=k:=by omega
 obtain⟨xv,hxv⟩:∃xv:Nat->Rat,∀j,j<n->xv (cl j)=y j:=aZx h.o.clt h.o.cinj y
 show Sd _ _ _ _ _ _
 refine aId tSd 0 2 rfl rfl bL bL rfl ⟨_,swl kP,_,swl kP,bL,aA gT mxd ⟨(X,xv),⟨h.o.sol hP λi hi=>?_,λc hc=>?_⟩,jW ⟨rfl,rfl⟩ rfl bL (aB (cI kP) bJ) rfl (aBl kP)⟩⟩
 ·show xv (cl i)=_
  rw[hxv i hi,hy,hζ]
 obtain⟨j,hj,rfl⟩:=sV h.o.clt h.o.cinj c hc
 show Cr (X (cl j)) (xv (cl j))/\rb (xv (cl j)) _
 rw[hxv j hj,<-hZe]
 exact hX j oM hj
structure StpM where
 k:Int
 p:RatM
 o:Sl EntM
instance:Inhabited StpM:=⟨⟨0,default,dK⟩⟩
def StpM.C (s:StpM):List CV:=iC s.k::(s.p.C++[bR s.o])
theorem aPn (s:StpM):s.C.length=5:=rfl
theorem aZz (s:StpM):s.C.all exC=true:=rfl
theorem aPo (s:StpM):∀c∈s.C,fB c=true:=λc hc=>by
 rcases aW.1 hc with rfl|hc
 ·rfl
 rcases aQ.1 hc with hc|hc
 ·exact gJ _ c hc
 rw[aI.1 hc];rfl
abbrev aBx (L:List StpM):List CV:=fl StpM.C default L
theorem aPp {L:List StpM} {j:Nat} (h:j<L.length):((aBx L).drop (j*5)).take 5=(L.getD j default).C:=(aXo (f:=StpM.C) (d:=default) (L:=L) (e:=5) aPn j h).symm
theorem aIq {L:List StpM}:(aBx L).length=L.length*5:=aFv (f:=StpM.C) (d:=default) aPn
abbrev stF (A:Option Nat) (k:Nat) (L:List StpM):Fam:=⟨146,5,1,λ_=>A,λ_=>k,λ_=>aBx L⟩
abbrev fwB (hd:CV) (f:LuM) (A:Option Nat) (k:Nat) (L:List StpM) (b1 b2 b3:TypeId×Nat×List CV):BL:=[(92,0,hd::(f.C++[.h A L.length k])),b1,b2,b3,(26,0,[.p 0 0])]
def fwX (hd:CV) (f:LuM) (A:Option Nat) (k:Nat) (L:List StpM) (bl:BL):Prop:=∃b1 b2 b3,bl=fwB hd f A k L b1 b2 b3
abbrev yvV (l:Nat):Value:=.func (.yield l) #[] #[]
abbrev fwS (l:Nat) (A:Option Nat) (k m j:Nat):List (Nat×DV):=[(0,.c (.v (yvV l))),(8,.c (.h A m k)),(9,.c (iC m)),(10,.c (iC j))]
structure FwI (A:Option Nat) (k l m:Nat) (J:BL->Nat->World->Prop) (j i:Nat) (f:Nat->Value) (w:World):Prop where
 jm:j<=m
 J:∃bl,J bl j w
 f0:f 0=yvV l
 f8:f 8= .slice (A.map λb=>⟨b,0,none⟩) m k
 f9:f 9= .int .i64 m
 f10:f 10= .int .i64 i
theorem bAa {ρ0 ρ:Pl} {w0 w:World} {nb i T e:Nat} {bl:BL} {c:CV} {r:List CV} (h:DnW ρ0 w0 nb bl ρ w) (hi:bl[i]? =some (T,e,c::r)):∃b,(ρ i).1=some b:=by
 have:=h.ok i T e _ hi
 unfold Bq at this
 cases hρ:(ρ i).1 with
 |none=>simp only[hρ] at this;exact absurd this.1 (by simp)
 |some b=>exact⟨b,rfl⟩
theorem yK {s:SS} {chg:List (Nat×DV)} {ρ0 ρ:Pl} {w0 w:World} {nb t:Nat} {f:Nat->Value} {x:Value} (h:AllC s.sl chg) (hD:Dn ρ0 w0 nb s ρ f w) (ht:eW chg t=some (.c (.v x))):f t=x:=(h.hd hD ht).inv_c.inv_v
theorem bFz {s:SS} {chg:List (Nat×DV)} {ρ0 ρ:Pl} {w0 w:World} {nb t m k:Nat} {A:Option Nat} {f:Nat->Value} (h:AllC s.sl chg) (hD:Dn ρ0 w0 nb s ρ f w) (ht:eW chg t=some (.c (.h A m k))):f t= .slice (A.map λb=>⟨b,0,none⟩) m k:=by
 have:=(h.hd hD ht).inv_c
 generalize f t=x at this
 cases this;rfl
theorem fwD {ρ:Pl} {w:World} {l k m j:Nat} {A:Option Nat} {f:Nat->Value} {bl:BL} {fl:List Fam} (hD:DnW ρ w 5 bl ρ w) (hF:ρ.F=fl) (e0:f 0=yvV l) (e8:f 8= .slice (A.map λb=>⟨b,0,none⟩) m k) (e9:f 9= .int .i64 m) (e10:f 10= .int .i64 j):Dn ρ w 5 ⟨fwS l A k m j,[],bl,fl⟩ ρ f w:=⟨hD,.cons (by rw[e0];exact .c (Rc.v _)) (.cons (by rw[e8];exact .c (Rc.h _ _ _)) (.cons (by rw[e9];exact .c (Rc.v _)) (.cons (by rw[e10];exact .c (Rc.v _)) .nil))),hF⟩
abbrev aPq:FuncId:=172
theorem bXb:Ent Tryz.prog aPq:=aV func172 rfl kR
theorem bXc:Tryz.prog.funcs[aPq]? =some Tryz.f172:=func172
theorem bXd (hd:CV) (F:LuM) (A:Option Nat) (k:Nat) (L:List StpM) (hm:L.length<=4096):ItC Tryz.prog aPq [(4,0)] 5 (fwX hd F A k L) [stF A k L] L.length λj=> .agg ((L.getD j default).C.map aKe).toArray:=λρ l J hF hX hS hY bl W hJ0=>by
 obtain⟨m,hmL⟩:∃m,m=L.length:=⟨_,rfl⟩
 have hfin:∀(f:Nat->Value) (w:World),(∃bl',J bl' L.length w)->∃vs,aGr Tryz.prog f w [] vs/\(λ(_:Value) (w:World)=>∃bl',J bl' L.length w) (aBz vs) w:=λf w h=>⟨[],trivial,h⟩
 refine CallsIn.mono (F:=fen none) (n:=0) (callsIn_wide.2 (aGs (R:=λ_ w=>∃bl',J bl' L.length w) (rs:=[]) bXc rfl rfl rfl bL ?_)) λe w' ⟨v,he,hh⟩=>⟨⟨v,he⟩,hh⟩
 obtain⟨⟨b1,b2,b3,rfl⟩,hn,hD⟩:=hX bl 0 W hJ0
 have hmk:∀{bl:BL} {j:Nat} {w:World} {s':SS} {ρ':Pl} {f':Nat->Value} {w':World} {r:BL},J bl j w->Dn ρ w 5 s' ρ' f' w'->s'.bl=bl++r->s'.fl=[stF A k L]->J bl j w':=λhj hD hb hf=>hS _ _ _ _ _ _ hj (hb▸hD.m) (hD.l.trans hf)
 refine aRl (FwI A k l L.length J 0 0) ?_ ?_
 ·have hD0:Dn ρ W 5 ⟨[(0,.c (.v (yvV l))),(1,.c (.p 4 0))],[],fwB hd F A k L b1 b2 b3,[stF A k L]⟩ ρ (λi=>(#[yvV l,ptr ρ (4,0)]:Array Value).getD i undef) W:=by
   obtain⟨b,hb⟩:=bAa (i:=4) hD rfl
   exact⟨hD,.cons (.c (Rc.v _)) (.cons (.c ⟨bL,b,hb,by show ptr ρ (4,0)=_;unfold ptr;rw[hb];rfl⟩) .nil),hF⟩
  refine aGn (Sd.wp (K:=⟨λs'=>AllC s'.sl (fwS l A k L.length 0)/\s'.bl=fwB hd F A k L b1 b2 b3++[]/\s'.fl=[stF A k L],λ_ _=>False,λ_=>False⟩) (aA gT mxd ?_) hD0) (λf' w' ⟨s',ρ',⟨h1,h2,h3⟩,hD'⟩=>⟨aC _,⟨_,hmk hJ0 hD' h2 h3⟩,yK h1 hD' rfl,bFz h1 hD' rfl,yK h1 hD' rfl,yK h1 hD' rfl⟩) (λi f' w' ⟨s',ρ',hh,_⟩=>hh.elim) λf' w' ⟨s',ρ',hh,_⟩=>hh.elim
  exact⟨⟨rfl,rfl,rfl,rfl⟩,rfl,rfl⟩
 intro f1 w1 h1
 refine aDa (aMo (λj=>FwI A k l L.length J j j) (λj=>L.length-j) 0 h1 λj f2 w2 ⟨jm,⟨bl2,hJ2⟩,e0,e8,e9,e10⟩=>?_)
 obtain⟨⟨c1,c3,c4,rfl⟩,hn2,hD2⟩:=hX bl2 j w2 hJ2
 refine aRl (λf w=>FwI A k l L.length J j j f w/\f 11= .bool (decide ((j:Int)<(L.length:Nat)))) ?_ ?_
 ·refine aGn (Sd.wp (K:=⟨λs'=>AllC s'.sl ((11,.c (.b ((j:Int)<(L.length:Nat)) inferInstance))::fwS l A k L.length j)/\s'.bl=fwB hd F A k L c1 c3 c4++[]/\s'.fl=[stF A k L],λ_ _=>False,λ_=>False⟩) (aA gT mxd ?_) (fwD hD2 hF e0 e8 e9 e10)) (λf' w' ⟨s',ρ',⟨h1,h2,h3⟩,hD'⟩=>⟨⟨jm,⟨_,hmk hJ2 hD' h2 h3⟩,yK h1 hD' rfl,bFz h1 hD' rfl,yK h1 hD' rfl,yK h1 hD' rfl⟩,(h1.hd hD' rfl).inv_c.inv_b⟩) (λi f' w' ⟨s',ρ',hh,_⟩=>hh.elim) λf' w' ⟨s',ρ',hh,_⟩=>hh.elim
  exact⟨⟨⟨id,id⟩,rfl,rfl,rfl,rfl⟩,rfl,rfl⟩
 intro f3 w3 ⟨hI3,h11⟩
 refine aIx (aMm h11 (λht=>aRk ?_) λhf=>bGu ?_)
 ·have hj:j<L.length:=by have:=of_decide_eq_true ht;omega
  obtain⟨-,⟨bl3,hJ3⟩,a0,a8,a9,a10⟩:=hI3
  obtain⟨⟨d1,d3,d4,rfl⟩,hn3,hD3⟩:=hX bl3 j w3 hJ3
  obtain⟨S,hSj⟩:∃S,S=L.getD j default:=⟨_,rfl⟩
  have hYj:∀W,J (fwB hd F A k L d1 d3 d4) j W->YieldAt (fen none) 0 Tryz.prog l #[.agg (S.C.map aKe).toArray] W λe W'=>e= .returned (.bool true)/\∃bl',J bl' (j+1) W':=λW h=>by
   rw[hSj];exact hY _ j W hj h
  have hat:((aBx L).drop (j*5)).take 5=S.C:=by rw[hSj];exact aPp hj
  refine aRl (λf w=>FwI A k l L.length J (j+1) j f w) ?_ ?_
  ·refine aDa (aRl (λf w=>∃ρ' s',(AllC s'.sl ((4,.c (.p 5 0))::fwS l A k L.length j)/\s'.bl=fwB hd F A k L d1 d3 d4++[(146,0,S.C)]/\s'.fl=[stF A k L])/\Dn ρ w3 5 s' ρ' f w) ?_ ?_)
   ·refine aGn (Sd.wp (K:=⟨λs'=>AllC s'.sl ((4,.c (.p 5 0))::fwS l A k L.length j)/\s'.bl=fwB hd F A k L d1 d3 d4++[(146,0,S.C)]/\s'.fl=[stF A k L],λ_ _=>False,λ_=>False⟩) (bRl tSd 0 rfl λhA=>aA gT mxd ?_) (fwD hD3 hF a0 a8 a9 a10)) (λf' w' ⟨s',ρ',h1,hD'⟩=>⟨ρ',s',h1,hD'⟩) (λi f' w' ⟨s',ρ',hh,_⟩=>hh.elim) λf' w' ⟨s',ρ',hh,_⟩=>hh.elim
    obtain⟨bb,hbb⟩:=hA 0 (bN 0) λe=>by
     have h1:=aIq (L:=L)
     rw[show aBx L=[] from e] at h1
     simp at h1;omega
    exact⟨j,bb,⟨rfl,hj,hbb⟩,0,0,⟨bL,hbb⟩,_,⟨hat,rfl⟩,⟨rfl,rfl,rfl,rfl,rfl⟩,rfl,rfl⟩
   intro f4 w4 ⟨ρ4,s4,⟨g1,g2,g3⟩,hD4⟩
   obtain⟨sl4,gl4,bl4,fl4⟩:=s4
   obtain rfl:bl4=_:=g2
   obtain rfl:fl4=_:=g3
   have hJ4:=hmk hJ3 hD4 rfl rfl
   have hD5:Dn ρ w3 5 ⟨(4,.c (.p 5 0))::fwS l A k L.length j,[],fwB hd F A k L d1 d3 d4++[(146,0,S.C)],[stF A k L]⟩ ρ4 f4 w4:=⟨hD4.m,.cons (g1.hd hD4 rfl) (.cons (g1.hd hD4 rfl) (.cons (g1.hd hD4 rfl) (.cons (g1.hd hD4 rfl) (.cons (g1.hd hD4 rfl) .nil)))),hD4.l⟩
   refine aRl (λf w=>FwI A k l L.length J (j+1) j f w/\f 17= .bool false) (bRx (l:=[_,_,_,_]) [_,_] [_,_] rfl rfl λro=>vL gT (K:=λs'=>AllC s'.sl ((14,.c (.v (yvV l)))::(15,.a S.C)::fwS l A k L.length j)/\s'.bl=fwB hd F A k L d1 d3 d4++[(146,0,S.C)]/\s'.fl=[stF A k L]) (λs5 ρ5 f5 w5 ⟨k1,k2,k3⟩ hD6=>?_) ?_ hD5) ?_
   ·have hJ6:=hmk hJ3 hD6 k2 k3
    have y14:f5 14=yvV l:=yK k1 hD6 rfl
    have y15:f5 15= .agg (S.C.map aKe).toArray:=by
     have:=k1.hd hD6 (t:=15) (d:=.a S.C) rfl
     generalize f5 15=x at this
     cases this with
     |a h=>rw[h.ex (aZz S)]
    refine RLI.yield (R:=λe W'=>e= .returned (.bool true)/\∃bl',J bl' (j+1) W') rfl rfl rfl bL (bDj y14) (show YieldAt _ _ _ _ #[f5 15] _ _ from by rw[y15];exact hYj w5 hJ6) λe w' ⟨he,hb⟩=>⟨.bool true,he,RLI.val rfl rfl rfl bL (aRm (p:=true) rfl) (RLI.nil (show FwI A k l L.length J (j+1) j _ _/\_=_ from ⟨⟨hj,hb,?_,?_,?_,?_⟩,rfl⟩))⟩
    ·show f5 0=_;exact yK k1 hD6 rfl
    ·show f5 8=_;exact bFz k1 hD6 rfl
    ·show f5 9=_;exact yK k1 hD6 rfl
    show f5 10=_;exact yK k1 hD6 rfl
   ·exact⟨⟨rfl,rfl,rfl,rfl,rfl,rfl⟩,rfl,rfl⟩
   intro f6 w6 ⟨hI6,h17⟩
   exact aMn h17 (aRk hI6)
  intro f7 w7 ⟨j7,⟨bl7,hJ7⟩,b0,b8,b9,b10⟩
  obtain⟨⟨d1,d3,d4,rfl⟩,hn7,hD7⟩:=hX bl7 _ w7 hJ7
  refine aGn (Sd.wp (K:=⟨λs'=>AllC s'.sl (fwS l A k L.length (j+1))/\s'.bl=fwB hd F A k L d1 d3 d4++[]/\s'.fl=[stF A k L],λ_ _=>False,λ_=>False⟩) (aA gT mxd ?_) (fwD hD7 hF b0 b8 b9 b10)) (λf' w' ⟨s',ρ',⟨h1,h2,h3⟩,hD'⟩=>⟨j+1,⟨j7,⟨_,hmk hJ7 hD' h2 h3⟩,yK h1 hD' rfl,bFz h1 hD' rfl,yK h1 hD' rfl,yK h1 hD' rfl⟩,by omega⟩) (λi f' w' ⟨s',ρ',hh,_⟩=>hh.elim) λf' w' ⟨s',ρ',hh,_⟩=>hh.elim
  exact⟨(j+1:Nat),wi,⟨rfl,rfl,rfl,rfl⟩,rfl,rfl⟩
 have hj:j=L.length:=by have:=of_decide_eq_false hf;have:=hI3.jm;omega
 subst hj
 exact hfin _ _ hI3.J
structure StpR where
 k:Nat
 p:Rat
 o:List En
instance:Inhabited StpR:=⟨⟨0,0,[]⟩⟩
def StpR.ap (s:StpR) (x:Nat->Rat):Nat->Rat:=λi=>if i=s.k then x s.k/s.p else x i-Vm.get s.o (i:Nat)*(x s.k/s.p)
structure StpOk (S:StpM) (s:StpR) (n F:Nat):Prop where
 k:S.k=(s.k:Nat)
 kn:s.k<n
 p:Cr S.p s.p
 pb:rb s.p F
 p0:s.p≠0
 o:Ek S.o.l s.o
 ov:VOk s.o (n:Nat)
 ok:∀e∈s.o,e.1≠(s.k:Nat)
 ob:rbE s.o F
def yL (R:List StpR) (x:Nat->Rat):Nat->Rat:=R.foldl (λx s=>s.ap x) x
theorem yM {R:List StpR} {x:Nat->Rat} {j:Nat} (h:j<R.length):yL (R.take (j+1)) x=(R.getD j default).ap (yL (R.take j) x):=by
 unfold yL
 rw[yI h,List.foldl_append];rfl
def StpR.pt (s:StpR) (x:Nat->Rat) (t:Nat):Nat->Rat:=λi=>if i=s.k then x s.k/s.p else x i-Vm.get (s.o.take t) (i:Nat)*(x s.k/s.p)
theorem StpR.pt_all (s:StpR) (x:Nat->Rat):s.pt x s.o.length=s.ap x:=by unfold pt ap;rw[cU]
theorem StpR.pt_succ {s:StpR} {x:Nat->Rat} {t i:Nat} (h:t<s.o.length) (he:(s.o.getD t default).1=(i:Nat)) (hk:i≠s.k) (j:Nat):s.pt x (t+1) j=if j=i then s.pt x t i-(s.o.getD t default).2*(x s.k/s.p) else s.pt x t j:=by
 unfold pt
 rw[yI h,mL,show ∀e:En,[e]=e::[] from λ_=>rfl,mD,he]
 by_cases e1:j=i
 ·subst e1
  rw[if_pos rfl,if_neg hk,if_neg hk,if_pos rfl]
  show _-(_+(_+(0:Rat)))*_=_
  grind
 rw[if_neg e1]
 by_cases e2:j=s.k
 ·rw[if_pos e2,if_pos e2]
 rw[if_neg e2,if_neg e2,if_neg oM]
 show _-(_+((0:Rat)+(0:Rat)))*_=_
 grind
theorem StpR.pt_new {s:StpR} {x:Nat->Rat} {t i n:Nat} (h:t<s.o.length) (hv:VOk s.o (n:Nat)) (he:(s.o.getD t default).1=(i:Nat)) (hk:i≠s.k):s.pt x t i=x i:=by
 unfold pt
 rw[if_neg hk,lS λe hm=>?_,eS,aBw]
 obtain⟨k,hk,rfl⟩:=List.mem_take_iff_getElem.1 hm
 have:=fI.1 hv.1 k t oM h oM
 rw[gd h] at he
 have h2:(s.o[k]'oM).1<(s.o[t]).1:=this
 omega
theorem StpR.pt_zero {s:StpR} {x:Nat->Rat} (i:Nat) (hk:i≠s.k):s.pt x 0 i=x i:=by
 unfold pt
 rw[if_neg hk]
 show _-(0:Rat)*_=_
 rw[eS,aBw]
theorem StpR.ap_zero {s:StpR} {x:Nat->Rat} (h:x s.k=0) (i:Nat):s.ap x i=x i:=by
 have h0:x s.k/s.p=0:=by rw[h,iE,eS]
 unfold ap
 by_cases e:i=s.k
 ·rw[if_pos e,e,h0,h]
 rw[if_neg e,h0,eE,aBw]
structure IvM where
 c:Nat->Sl EntM
 f:LuM
 A:Option Nat
 k:Nat
 L:List StpM
abbrev ZT:=Option (Option Addr×Nat)
abbrev hdC (z:ZT) (n:Nat) (c:Nat->Sl EntM):CV:=match z with
 |none=> .s 1 n
 |some (A,k)=>oL ⟨A,k,jE c n⟩
abbrev b1C (z:ZT) (n:Nat) (c:Nat->Sl EntM):List CV:=match z with
 |none=>dX n λj=>bR (c j)
 |some _=>[]
theorem aGc {z:ZT} {n:Nat} {c:Nat->Sl EntM}:∀x∈b1C z n c,fB x=true:=by
 cases z with
 |none=>exact aR λ_ _=>rfl
 |some p=>exact λx hx=>by cases hx
abbrev ivB (z:ZT) (n:Nat) (v:IvM):BL:=[(92,0,hdC z n v.c::(v.f.C++[.h v.A v.L.length v.k])),(65,1,b1C z n v.c)]
abbrev ivF (v:IvM):List Fam:=[stF v.A v.k v.L]
abbrev ivL:List Bool:=[false,true]
theorem nP {z:ZT} {n:Nat} {v:IvM} {r:BL}:ClB ivL (ivB z n v++r):=ClB.cons (λh=>by cases h) (ClB.cons (λ_=>aP.2 aGc) (λi T es l hi hc=>by cases hc))
abbrev bAb:List Bool:=[false,true,true]
theorem bPf {z:ZT} {n T e:Nat} {v:IvM} {l:List CV} (h:∀c∈l,fB c=true):ClB bAb (ivB z n v++[(T,e,l)]):=ClB.cons (λh=>by cases h) (ClB.cons (λ_=>aP.2 aGc) (ClB.cons (λ_=>aP.2 h) aT))
theorem bPg {z:ZT} {n:Nat} {v:IvM}:ClB bAb (ivB z n v):=ClB.cons (λh=>by cases h) (ClB.cons (λ_=>aP.2 aGc) λi T es l hi hc=>by cases hi)
theorem bXe {z:ZT} {n k:Nat} {c:Nat->Sl EntM} (h:2<=k):scC k (hdC z n c)=true:=by
 cases z with
 |none=>exact Nat.ble_eq_true_of_le h
 |some p=>rfl
theorem bPh (f:LuM):∀c∈f.C,fB c=true:=aP.1 (show f.C.all fB=true from rfl)
theorem pX {z:ZT} {n k:Nat} {v:IvM} {r:BL} (hk:2<=k) (h:scB k r):scB k (ivB z n v++r):=by
 refine aB (aP.2 λx hx=>?_) (aB (cI aGc) h)
 rcases aW.1 hx with rfl|hx
 ·exact bXe hk
 rcases aQ.1 hx with hx|hx
 ·exact mZ (bPh v.f x hx)
 rw[aI.1 hx];rfl
abbrev aMh:FuncId:=45
theorem bAc:Ent Tryz.prog aMh:=aV func45 rfl kR
theorem bAd:Tryz.prog.funcs[aMh]? =some Tryz.f45:=func45
theorem qV (z:ZT) (n:Nat) (v:IvM):CtrF Tryz.prog aMh ivL [.c (.p 0 0)] (ivB z n v) (ivF v) (λ_:Unit=>⟨.c (iC n),ivB z n v,ivF v,True⟩):=by
 cases z with
 |none=>exact gN gT bAc bAd rfl rfl rfl bL (nP (r:=[])) (aA gT mxd ⟨(),trivial,fC rfl ⟨rfl,rfl⟩ ⟨rfl,trivial⟩ bL (pX (r:=[]) bL bJ) rfl (nP (r:=[]))⟩)
 |some p=>exact gN gT bAc bAd rfl rfl rfl bL (nP (r:=[])) (aA gT mxd ⟨(),trivial,fC (by show EqV (.v (.int .i64 ((jE v.c n).length:Nat))) (iC n);rw[nT];exact EqV.refl _) ⟨rfl,rfl⟩ ⟨rfl,trivial⟩ bL (pX (r:=[]) bL bJ) rfl (nP (r:=[]))⟩)
abbrev aGd:FuncId:=14
theorem aPr:Ent Tryz.prog aGd:=aV func14 rfl kR
theorem aPs:Tryz.prog.funcs[aGd]? =some Tryz.f14:=func14
theorem aIr (z:ZT) (n:Nat) (v:IvM):CtrF Tryz.prog aGd ivL [.c (.p 0 0)] (ivB z n v) (ivF v) (λ_:Unit=>⟨.c (iC v.L.length),ivB z n v,ivF v,True⟩):=by
 cases z with
 |none=>exact gN gT aPr aPs rfl rfl rfl bL (nP (r:=[])) (aA gT mxd ⟨(),trivial,fC rfl ⟨rfl,rfl⟩ ⟨rfl,trivial⟩ bL (pX (r:=[]) bL bJ) rfl (nP (r:=[]))⟩)
 |some p=>exact gN gT aPr aPs rfl rfl rfl bL (nP (r:=[])) (aA gT mxd ⟨(),trivial,fC rfl ⟨rfl,rfl⟩ ⟨rfl,trivial⟩ bL (pX (r:=[]) bL bJ) rfl (nP (r:=[]))⟩)
abbrev bPi:FuncId:=108
theorem bXf:Ent Tryz.prog bPi:=aV func108 rfl kR
theorem bXg:Tryz.prog.funcs[bPi]? =some Tryz.f108:=func108
theorem bXh (z:ZT) (n:Nat) (v:IvM):CtrF Tryz.prog bPi ivL [.c (.p 0 0)] (ivB z n v) (ivF v) (λ_:Unit=>⟨.c (.f aPq [] [(2,0)]),ivB z n v++[(26,0,[.p 0 0])],ivF v,True⟩):=by
 cases z with
 |none=>exact gN gT bXf bXg rfl rfl rfl bL (nP (r:=[])) (aA gT mxd ⟨(),trivial,fC rfl ⟨rfl,rfl,rfl⟩ ⟨rfl,trivial⟩ bL (pX bL (aB rfl bJ)) rfl nP⟩)
 |some p=>exact gN gT bXf bXg rfl rfl rfl bL (nP (r:=[])) (aA gT mxd ⟨(),trivial,fC rfl ⟨rfl,rfl,rfl⟩ ⟨rfl,trivial⟩ bL (pX bL (aB rfl bJ)) rfl nP⟩)
abbrev svB (z:ZT) (n:Nat) (v:IvM) (Z:Nat->RatM):BL:=ivB z n v++[(62,3,rtC n Z),(55,0,[.s 2 n]),(26,0,[.p 0 0])]
theorem bPj {z:ZT} {n:Nat} {v:IvM} {Z:Nat->RatM}:scB 5 (svB z n v Z):=pX bL (aB (cI kP) (aB rfl (aB rfl bJ)))
abbrev siB (z:ZT) (n:Nat) (v:IvM) (S:StpM) (Z:Nat->RatM):BL:=ivB z n v++[(62,3,rtC n Z),(55,0,[.s 2 n]),(26,0,[.p 0 0]),(146,0,S.C)]
theorem bAe {z:ZT} {n:Nat} {v:IvM} {S:StpM} {Z:Nat->RatM}:scB 6 (siB z n v S Z):=pX bL (aB (cI kP) (aB rfl (aB rfl (aB (cI (aPo S)) bJ))))
abbrev siG (o:Sl EntM) (t:Nat):List (Nat×DV):=[(56,.c (iC t)),(55,.c (iC (o.l.length:Nat))),(54,.c (bR o)),(8,.c (.p 5 0)),(6,.c (.p 3 0))]
abbrev xQ:FuncId:=44
theorem bGa:Ent Tryz.prog xQ:=aV func44 rfl kR
theorem bGb:Tryz.prog.funcs[xQ]? =some Tryz.f44:=func44
theorem bAf (z:ZT) (v:IvM) (b:Sl RatM) {M:Nat->List En} {n F Fs B Bs:Nat} {rw cl:Nat->Nat} {Lw Up:Nat->List En} {bv:Nat->Rat} {R:List StpR} (h:LuG v.f M n rw cl Lw Up F) (h1:1<=F) (hn:n<=4096) (hb:b.l.length=n) (hbv:∀k,k<n->Cr (b.l.getD k default) (bv k)/\rb (bv k) B) (h1B:1<=B) (hF:F<=4398046511104) (hB:yb (zb B F n) F n<=4398046511104)
 (hL:v.L.length=R.length) (hLn:v.L.length<=4096) (hR:∀j,j<R.length->StpOk (v.L.getD j default) (R.getD j default) n Fs) (h1s:1<=Bs) (hBs:Fs+Bs<=4398046511104) (hX:∀x,Sol M n bv x->∀j,j<=R.length->∀i,i<n->rb (yL (R.take j) x i) Bs):
 CtrF Tryz.prog xQ bAb [.c (.p 0 0),.c (fZ b)] (ivB z n v) (ivF v) (λg:(Nat->RatM)×(Nat->Rat)=>⟨.t [.c (.s 2 n),.c (iC 0)],ivB z n v++[(62,3,rtC n g.1)],ivF v,Sol M n bv g.2/\∀i,i<n->Cr (g.1 i) (yL R g.2 i)/\rb (yL R g.2 i) Bs⟩):=by
 have hRi:((b.l.length:Nat):Int)=(n:Nat):=by rw[hb]
 let y:ZT:=z
 cases z
 all_goals
  refine bDi gT bGa bGb rfl rfl rfl bL (bPg (z:=y)) (Sd0.seq (aA gT mxd ?_))
  refine Sd0.seq (aA gT mxd ⟨[0,1,1000],qV y n v,rfl,rfl,rfl,λ_ _=>⟨λhh=>absurd hRi hh,λ_=>aA gT mxd ?_⟩⟩)
  refine Sd0.seq (aA gT mxd ⟨[],aZy v.f b h h1 hn hb hbv h1B hF hB,rfl,rfl,rfl,λ⟨Z0,x0⟩ ⟨hS,hZ0⟩=>?_⟩)
  refine Sd0.seq (aA gT mxd ⟨λhh=>absurd rfl hh,λ_=>aA gT mxd ?_⟩)
  refine Sd0.seq1 (aA gT mxd ⟨[0,1,1000],bXh y n v,rfl,rfl,rfl,λ_ _=>?_⟩)
  replace hZ0:∀i,i<n->Cr (Z0 i) (x0 i)/\rb (x0 i) (yb (zb B F n) F n):=hZ0
  have hXS:=hX x0 hS
  show Sd1 _ _ _ _ _ _ _
  refine bJt (svB y n v) (λZ j=>∀i,i<n->Cr (Z i) (yL (R.take j) x0 i)) v.L.length (fwX (hdC y n v.c) v.f v.A v.k v.L) (λj=> .agg ((v.L.getD j default).C.map aKe).toArray) (λj=>(v.L.getD j default).C) Z0 rfl rfl bXb (bXd (hdC y n v.c) v.f v.A v.k v.L hLn) rfl (λ_=>rfl) (λZ=>⟨_,_,_,rfl⟩) (λi hi=>(hZ0 i hi).1) (λρ W bl j ⟨b1,b2,b3,hb⟩ hbn hF hD hj=>?_) bL (λZ j hZ hj=>?_) (λ_=>bPj) λZ hZ=>aA gT mxd ?_
  ·subst hb
   exact bDl (F:=stF v.A v.k v.L) (i:=0) (k:=0) (by rw[hF];rfl) (bN 0) rfl hbn hD (aPp hj) (λe=>by cases e) (aZz _)
  ·have hjR:j<R.length:=by omega
   have ok:=hR j hjR
   have hxb:=hXS j oM
   have hxb':=hXS (j+1) oM
   rw[yM hjR] at hxb'
   have hK:∀Z':Nat->RatM,(∀i,i<n->Cr (Z' i) ((R.getD j default).ap (yL (R.take j) x0) i))->∀i,i<n->Cr (Z' i) (yL (R.take (j+1)) x0 i):=λZ' h=>by rw[yM hjR];exact h
   obtain⟨S,hSS⟩:∃S,S=v.L.getD j default:=⟨_,rfl⟩
   obtain⟨s,hs⟩:∃s,s=R.getD j default:=⟨_,rfl⟩
   obtain⟨x,hx⟩:∃x,x=yL (R.take j) x0:=⟨_,rfl⟩
   rw[<-hSS,<-hs] at ok
   rw[<-hx,<-hs] at hxb' hK
   rw[<-hx] at hxb
   replace hZ:∀i,i<n->Cr (Z i) (x i):=by rw[hx];exact hZ
   simp only[<-hSS]
   have hkn:=ok.kn
   have hxk:Rq (Z s.k) (x s.k) Bs:=(hZ _ hkn).rq (hxb _ hkn)
   refine aA gT mxd ⟨rfl,aA gT mxd ⟨s.k,⟨ok.k,hkn,jX hkn⟩,_,nU hkn,[],kM (Z s.k) (hxk.le oM),rfl,rfl,rfl,λ_ _=>⟨λhh=>aA gT mxd ?_,λhh=>aA gT mxd ?_⟩⟩⟩
   ·have h0:x s.k=0:=cK.1 (eY.1 hh)
    exact⟨Z,hK Z λi hi=>by rw[s.ap_zero h0];exact hZ i hi,⟨rfl,rfl,rfl,rfl,rfl⟩,rfl⟩
   have hpr:Rq S.p s.p Fs:=ok.p.rq ok.pb
   have hxa:rb (x s.k/s.p) Bs:=by
    have:=hxb' s.k hkn
    unfold StpR.ap at this
    rwa [if_pos rfl] at this
   refine⟨.seq ((List.range 16).map λi=>(i,i==15)),by kernel_rfl,s.k,⟨ok.k,hkn,jX hkn⟩,_,nU hkn,[],aWs (Z s.k) S.p (hxk.le oM) (hpr.le oM) ok.p0,rfl,rfl,rfl,λg hg=>⟨s.k,⟨ok.k,hkn,jX hkn⟩,_,sW hkn,?_⟩⟩
   replace hg:Cr g (x s.k/s.p):=hg
   have lo:=ok.o.ln
   have lv:=kO ok.ov
   show Sd _ _ _ _ _ _
   refine dR (λ_=>true) (λg:Nat×(Nat->RatM)=>siG S.o g.1) (λg=>siB y n v S g.2) (λ_=>ivF v) (λg=>g.1<=s.o.length/\∀i,i<n->Cr (g.2 i) (s.pt x g.1 i)) (λg=>s.o.length-g.1) λhM=>⟨cH hM (chg:=λg:Nat×(Nat->RatM)=>siG S.o g.1) (bls:=λg=>siB y n v S g.2) (fls:=λ_=>ivF v) (0,upd Z s.k g) ⟨aC _,λi hi=>?_⟩ rfl ⟨rfl,rfl,rfl,rfl,rfl,rfl⟩ ⟨rfl,trivial⟩ ⟨rfl,rfl,rfl,rfl,rfl⟩ bL bAe rfl,λ⟨t,Z'⟩ ⟨ht,hZ'⟩=>aA gT mxd ⟨λh3=>aA gT mxd ?_,λh3=>aA gT mxd ?_⟩⟩
   ·show Cr (upd Z s.k g i) (s.pt x 0 i)
    by_cases e:i=s.k
    ·rw[e,bP]
     unfold StpR.pt
     rw[if_pos rfl];exact hg
    rw[bK e,s.pt_zero i e];exact hZ i hi
   all_goals
    replace ht:t<=s.o.length:=ht
    replace hZ':∀i,i<n->Cr (Z' i) (s.pt x t i):=hZ'
   ·replace h3:(t:Int)<(S.o.l.length:Nat):=h3
    have htl:t<s.o.length:=by omega
    have er:=ok.o.e t htl
    have hm:=gW htl
    have ev:=ok.ov.2 _ hm
    obtain⟨i0,hi0⟩:∃i0:Nat,(s.o.getD t default).1=(i0:Nat):=⟨(s.o.getD t default).1.toNat,by omega⟩
    have hin:i0<n:=by omega
    have hik:i0≠s.k:=λe=>ok.ok _ hm (by rw[hi0,e])
    have hix:(S.o.l.getD t default).ix=(i0:Nat):=er.1.trans hi0
    have evb:=ok.ob _ hm
    have z1:=hZ' i0 hin
    rw[s.pt_new htl ok.ov hi0 hik] at z1
    have z2:Cr (Z' s.k) (x s.k/s.p):=by
     have:=hZ' s.k hkn
     unfold StpR.pt at this
     rwa [if_pos rfl] at this
    have hmb:=kN evb hxa
    refine⟨t,⟨rfl,show t<S.o.l.length by omega⟩,.seq ((List.range 19).map λi=>(i,i==18)),by kernel_rfl,i0,⟨hix,hin,jX hin⟩,_,nU hin,s.k,⟨ok.k,hkn,jX hkn⟩,_,nU hkn,[],aBk (S.o.l.getD t default).v (Z' s.k) (er.2.rq (evb.le oM)) (z2.rq (hxa.le oM)),rfl,rfl,rfl,λm hmc=>⟨[],aWu (Z' i0) m (z1.rq ((hxb i0 hin).le oM)) (Cr.rq hmc (hmb.le oM)),rfl,rfl,rfl,λg2 hg2=>⟨i0,⟨hix,hin,jX hin⟩,_,sW hin,(t+1:Nat),wi,cH hM (chg:=λg:Nat×(Nat->RatM)=>siG S.o g.1) (bls:=λg=>siB y n v S g.2) (fls:=λ_=>ivF v) (t+1,upd Z' i0 g2) ⟨⟨htl,λi hi=>?_⟩,show s.o.length-(t+1)<s.o.length-t by omega⟩ rfl ⟨rfl,rfl,rfl,rfl,rfl,rfl⟩ ⟨rfl,trivial⟩ ⟨rfl,rfl,rfl,rfl,rfl⟩ bL bAe rfl⟩⟩⟩
    show Cr (upd Z' i0 g2 i) (s.pt x (t+1) i)
    rw[StpR.pt_succ htl hi0 hik,s.pt_new htl ok.ov hi0 hik]
    by_cases e:i=i0
    ·rw[e,bP,if_pos rfl];exact hg2
    rw[bK e,if_neg e];exact hZ' i hi
   replace h3:¬(t:Int)<(S.o.l.length:Nat):=h3
   obtain rfl:t=s.o.length:=by omega
   rw[s.pt_all] at hZ'
   exact⟨Z',hK Z' hZ',⟨rfl,rfl,rfl,rfl,rfl⟩,rfl⟩
  replace hZ:∀i,i<n->Cr (Z i) (yL (R.take v.L.length) x0 i):=hZ
  rw[hL,cU] at hZ
  refine⟨rfl,(Z,x0),⟨hS,λi hi=>⟨hZ i hi,?_⟩⟩,fC ⟨rfl,rfl⟩ ⟨rfl,rfl,rfl⟩ ⟨rfl,trivial⟩ bL (pX (z:=y) bL (aB (cI kP) bJ)) rfl (bPf (z:=y) kP)⟩
  have:=hXS R.length (aF _) i hi
  rwa [cU] at this
theorem bAg {nb:Nat} {cl:List Bool} {s:SS} {d:DV} {o:OutF} (h:Gt nb ⟨[(0,d)],[],s.bl,s.fl⟩ (λ_:Unit=>⟨[(0,o.d)]++[],[],o.bl,o.fl⟩) λ_=>True) (hcl:ClB cl o.bl):bCy cl nb s d o:=λρ0 w0 ρ w v hD hF hv=>by
 obtain⟨_,ρ',_,hD'⟩:=h ρ0 w0 ρ (λ_=>v) w ⟨hD,⟨λt d' ht=>by
  simp only[eW] at ht
  cases hb:Nat.beq 0 t with
  |true=>(rw[hb] at ht;injection ht with ht;subst ht;exact hv)
  |false=>(rw[hb] at ht;cases ht),λt g d' ht=>(by cases ht)⟩,hF⟩
 exact⟨ρ',hD'.m,hD'.f.sl 0 _ rfl,hcl,hD'.l⟩
theorem bPk {l:List CV} {k0:Nat} {c0 c1:CV} (hk:l[k0]? =some c0) (h:LeC c0 c1):∀(k:Nat) (c c':CV),l[k]? =some c->(l.set k0 c1)[k]? =some c'->LeC c c':=λk c c' h1 h2=>by
 by_cases e:k=k0
 ·subst e
  rw[hk] at h1;injection h1 with h1
  rw[kA (cZ hk)] at h2;injection h2 with h2
  subst h1 h2;exact h
 rw[jA (fG e),h1] at h2
 injection h2 with h2
 subst h2;exact .refl _
theorem bAh {T es:Nat} {A A':Nat->Option Nat} {k k':Nat->Nat} {G G':Nat->List CV} {r:List Fam} (hA:A 0=A' 0) (hk:k 0=k' 0) (hG:G 0=G' 0) (hes:0<es:=by decide):Fsub (⟨T,es,1,A,k,G⟩::r) [⟨T,es,1,A',k',G'⟩]:=by
 refine⟨λf' F' h=>?_,λ_ f f' F F' j j' b h1 h2 hj hj' _ _=>?_⟩
 ·match f',h with
  |0,h=>
   injection h with h
   subst h
   refine⟨hes,λj' hj'=> .inr ⟨0,_,0,rfl,bN 0,?_⟩⟩
   obtain rfl:j'=0:=by replace hj':j'<1:=hj';omega
   exact⟨hA,hk,hG,rfl,rfl⟩
  |f'+1,h=>cases h
 match f,f',h1,h2 with
 |0,0,h1,h2=>
  injection h1 with h1;injection h2 with h2
  subst h1 h2
  replace hj:j<1:=hj
  replace hj':j'<1:=hj'
  exact⟨rfl,by omega⟩
 |f+1,_,h1,_=>cases h1
 |0,f'+1,_,h2=>cases h2
def cBs (M:Nat->List En) (n F:Nat):Option ((Nat->Sl EntM)×LuM×(Nat->Nat)×(Nat->Nat)×(Nat->List En)×(Nat->List En))->OutF
 |none=>⟨.t [.c (.v (.pointer none)),.c (iC 6)],[],[],Ker M n⟩
 |some (c,f,rw,cl,Lw,Up)=>⟨.t [.c (.p 0 0),.c (iC 0)],ivB none n ⟨c,f,none,0,[]⟩,ivF ⟨c,f,none,0,[]⟩,LuG f M n rw cl Lw Up F/\∀j,j<n->Ek (c j).l (trM M n j)⟩
abbrev aPt:FuncId:=10
theorem bHy:Ent Tryz.prog aPt:=aV func10 rfl kR
theorem bHz:Tryz.prog.funcs[aPt]? =some Tryz.f10:=func10
theorem bAi (m:MatM) {M:Nat->List En} {n B:Nat} (h:Mr m M n n B) (hb:rbM M n B) (h1:1<=B) (hB:bd B (n-1)<=4398046511104) (hn:n<=12):CtrF Tryz.prog aPt ivL [.a m.C] [] [] (cBs M n (bd B n)):=by
 have hBB:B<=4398046511104:=aH (oO (aC (n-1))) hB
 refine gN gT bHy bHz rfl rfl rfl bL (λi T es l hi=>by cases hi) (aA gT mxd ⟨[],aZq m h hb h1 hB hn,rfl,rfl,rfl,λg hg=>?_⟩)
 match g,hg with
 |none,hg=>exact⟨λ_=>aA gT mxd ⟨none,hg,fC ⟨rfl,rfl⟩ trivial trivial bL bJ rfl (λi T es l hi=>by cases hi)⟩,λhh=>absurd (show((6:Int))≠0 by decide) hh⟩
 |some (f,rw,cl,Lw,Up),⟨⟨q1,q2,q3,q4⟩,q5,q6,q7⟩=>
  refine⟨λhh=>absurd rfl hh,λ_=>aA gT mxd ⟨[],bUz m h hBB oM oM,rfl,rfl,rfl,λc hc=>⟨some (c,f,rw,cl,Lw,Up),⟨⟨q1,q2,q3,q4,q5,q6,q7⟩,hc⟩,bAg ?_ (nP (z:=none) (r:=[]))⟩⟩⟩
  show Gt _ _ _ _
  refine aQx tGt 146 5 1 bL ?_
  refine iS tGt 4 ((.s 2 n::(f.C++[CV.v (.slice none 0 0)])).set 9 (.h none 0 0)) rfl rfl (bPk (l:=.s 2 n::(f.C++[CV.v (.slice none 0 0)])) (k0:=9) rfl .nilh) ?_
  refine aId tGt 0 4 rfl rfl bL bL rfl ⟨_,aLo λ_ _=>rfl,bL,?_⟩
  refine aId tGt 1 2 rfl rfl bL bL rfl ⟨_,aLo λ_ _=>rfl,bL,?_⟩
  refine Tgt.fsub tGt (fl':=ivF ⟨c,f,none,0,[]⟩) (bAh rfl rfl rfl) ?_
  exact cH (M:=λ_=>true) (base:=[]) (chg:=λ_:Unit=>[(0,.t [.c (.p 0 0),.c (iC 0)])]) (bls:=λ_=>ivB none n ⟨c,f,none,0,[]⟩) (fls:=λ_=>ivF ⟨c,f,none,0,[]⟩) (λt d ht=>by cases ht) () trivial rfl ⟨rfl,rfl⟩ ⟨rfl,trivial⟩ ⟨rfl,rfl⟩ bL (pX (z:=none) (r:=[]) bL bJ) rfl
def oMx:Ord:=.joinX [] [2004,2005,2006,7] (.alt 2000 (.alt 2002 (.alt 1 (.alt 3 (.alt 2008 (.alt 9 (trS [2010,2011,2012,13,1014,2015]) (.alt 13 (trS [9,2010,2011,2012,1014,2015]) .nil)) .nil) (.alt 13 (trS [3,2008,9,2010,2011,2012,1014,2015]) .nil)) (.alt 13 (trS [1,3,2008,9,2010,2011,2012,1014,2015]) .nil)) .nil) .nil)
abbrev bAj:FuncId:=13
theorem bXi:Ent Tryz.prog bAj:=aV func13 rfl kR
theorem bXj:Tryz.prog.funcs[bAj]? =some Tryz.f13:=func13
theorem bPl (A:Option Addr) (k:Nat) (v:IvM) {M:Nat->List En} {n B:Nat} (h:∀j,j<n->Ek (v.c j).l (M j)) (ho:∀j,j<n->VOk (M j) (n:Nat)) (hb:rbM M n B) (hB:B<=4398046511104) (hn:n<=4096):CtrF Tryz.prog bAj ivL [.c (.p 0 0)] (ivB (some (A,k)) n v) (ivF v) (λg:MatM=>⟨.a g.C,ivB (some (A,k)) n v,ivF v,Mx g (trM M n) n⟩):=by
 have hM:Mx ⟨n,n,⟨A,k,jE v.c n⟩⟩ M n:=⟨rfl,rfl,nT,λj hj=>by
  show Ek ((jE v.c n).getD j dK).l _
  rw[rW hj];exact h j hj,λj hj=>⟨ho j hj,kO (ho j hj)⟩⟩
 refine gN gT bXi bXj rfl rfl rfl bL (nP (r:=[])) (aA gT mxd ?_)
 refine⟨oMx,by kernel_rfl,MatM,λg=>⟨[(3,.c (.p 3 0)),(2,.c (.p 2 0))]++[],[],ivB (some (A,k)) n v++[(24,0,[iC 0,iC 0,.v (.slice none 0 0)]),(24,0,g.C)],ivF v⟩,λg=>Mx g (trM M n) n,⟨⟨[0,1,1000],qV (some (A,k)) n v,rfl,rfl,rfl,λ_ _=>⟨rfl,⟨⟨[0,1,1000],qV (some (A,k)) n v,rfl,rfl,rfl,λ_ _=>⟨rfl,⟨⟨[],aOu ⟨n,n,⟨A,k,jE v.c n⟩⟩ (hM.mr hb) hB hn hn,rfl,rfl,rfl,λg hg=>⟨rfl,⟨rfl,?_⟩⟩⟩,⟨rfl,⟨[],aOu ⟨n,n,⟨A,k,jE v.c n⟩⟩ (hM.mr hb) hB hn hn,rfl,rfl,rfl,λg hg=>⟨rfl,?_⟩⟩⟩⟩⟩⟩,⟨rfl,⟨[0,1,1000],qV (some (A,k)) n v,rfl,rfl,rfl,λ_ _=>⟨rfl,⟨[],aOu ⟨n,n,⟨A,k,jE v.c n⟩⟩ (hM.mr hb) hB hn hn,rfl,rfl,rfl,λg hg=>⟨rfl,?_⟩⟩⟩⟩⟩⟩⟩⟩,⟨rfl,⟨[0,1,1000],qV (some (A,k)) n v,rfl,rfl,rfl,λ_ _=>⟨rfl,⟨[0,1,1000],qV (some (A,k)) n v,rfl,rfl,rfl,λ_ _=>⟨rfl,⟨[],aOu ⟨n,n,⟨A,k,jE v.c n⟩⟩ (hM.mr hb) hB hn hn,rfl,rfl,rfl,λg hg=>⟨rfl,?_⟩⟩⟩⟩⟩⟩⟩⟩,λg hg=>?_⟩
 all_goals first|(refine aA gT mxd ?_;skip)|skip
 all_goals first|(exact⟨g,hg,fC rfl ⟨rfl,rfl⟩ ⟨rfl,trivial⟩ bL (pX (r:=[]) bL bJ) rfl (nP (r:=[]))⟩)|skip
 all_goals (rename_i g hg;exact cH (M:=λ_=>true) (base:=[]) (chg:=λ_:MatM=>[(3,.c (.p 3 0)),(2,.c (.p 2 0))]) (bls:=λg=>ivB (some (A,k)) n v++[(24,0,[iC 0,iC 0,.v (.slice none 0 0)]),(24,0,g.C)]) (fls:=λ_=>ivF v) (λt d ht=>by cases ht) g hg rfl ⟨rfl,rfl,rfl,rfl⟩ ⟨rfl,trivial⟩ ⟨rfl,rfl⟩ bL (pX bL (aB rfl (aB rfl bJ))) rfl)
def SolA (a:Nat->Nat->Rat) (n:Nat) (b xv:Nat->Rat):Prop:=∀x:Nat->Rat,(∀k,k<n->fA (λj=>a k j*x j) n=b k)↔∀c,c<n->x c=xv c
abbrev enM (M:Nat->List En):Nat->Nat->Rat:=λr j=>Vm.get (M r) (j:Nat)
theorem Sol.a {M:Nat->List En} {n:Nat} {b xv:Nat->Rat} (h:Sol M n b xv):SolA (enM M) n b xv:=h
theorem SolA.congr {a a':Nat->Nat->Rat} {n:Nat} {b b' xv xv':Nat->Rat} (h:SolA a n b xv) (ha:∀r j,r<n->j<n->a' r j=a r j) (hb:∀r,r<n->b' r=b r) (hx:∀c,c<n->xv' c=xv c):SolA a' n b' xv':=λx=>by
 have e1:(∀k,k<n->fA (λj=>a' k j*x j) n=b' k)↔∀k,k<n->fA (λj=>a k j*x j) n=b k:=by
  constructor<;>intro hh k hk
  ·rw[<-hb k hk,<-hh k hk];exact eF λj hj=>by rw[ha k j hk hj]
  rw[hb k hk,<-hh k hk];exact eF λj hj=>by rw[ha k j hk hj]
 rw[e1,h x]
 constructor<;>intro hh c hc
 ·rw[hx c hc];exact hh c hc
 rw[<-hx c hc];exact hh c hc
theorem SolA.eq {a:Nat->Nat->Rat} {n:Nat} {b xv:Nat->Rat} (h:SolA a n b xv):∀k,k<n->fA (λj=>a k j*xv j) n=b k:=(h xv).2 λ_ _=>rfl
theorem SolA.rep {a a':Nat->Nat->Rat} {n k:Nat} {b z w v:Nat->Rat} {s:StpR} (h:SolA a n b z) (hk:k<n) (hw:∀r,r<n->fA (λj=>a r j*w j) n=v r) (hwk:w k≠0) (ha:∀r j,r<n->j<n->a' r j=if j=k then v r else a r j) (sk:s.k=k) (sp:s.p=w k) (so:∀i,i<n->i≠k->Vm.get s.o (i:Nat)=w i):SolA a' n b (s.ap z):=λx=>by
 obtain⟨y,hy⟩:∃y:Nat->Rat,y=λi=>(if i=k then 0 else x i)+x k*w i:=⟨_,rfl⟩
 have e1:∀r,r<n->fA (λj=>a' r j*x j) n=fA (λj=>a r j*y j) n:=λr hr=>by
  have h1:fA (λj=>a r j*y j) n=fA (λj=>a r j*(if j=k then 0 else x j)) n+x k*v r:=by
   rw[<-hw r hr,<-nB]
   exact eF λj _=>by rw[hy];grind
  have h2:fA (λj=>a' r j*x j) n=fA (λj=>a r j*(if j=k then 0 else x j)+1*(if j=k then x k*v r else 0)) n:=eF λj hj=>by
   rw[ha r j hr hj]
   by_cases e:j=k
   ·subst e;rw[if_pos rfl,if_pos rfl,if_pos rfl];grind
   rw[if_neg e,if_neg e,if_neg e];grind
  rw[h1,h2,nB,xP (m:=k) hk λj hj=>if_neg hj,if_pos rfl,uR]
 have e2:(∀r,r<n->fA (λj=>a' r j*x j) n=b r)↔∀c,c<n->y c=z c:=by
  rw[<-h y]
  exact⟨λhh r hr=>by rw[<-e1 r hr];exact hh r hr,λhh r hr=>by rw[e1 r hr];exact hh r hr⟩
 rw[e2]
 have h9:=iP _ hwk
 have yk:y k=x k*w k:=by rw[hy];show(if k=k then 0 else x k)+x k*w k=_;rw[if_pos rfl,fN]
 have yi:∀i,i≠k->y i=x i+x k*w i:=λi hi=>by rw[hy];show(if i=k then 0 else x i)+x k*w i=_;rw[if_neg hi]
 have ak:s.ap z k=z k/w k:=by unfold StpR.ap;rw[sk,sp,if_pos rfl]
 have ai:∀i,i<n->i≠k->s.ap z i=z i-w i*(z k/w k):=λi hi hn=>by unfold StpR.ap;rw[sk,sp,if_neg hn,so i hi hn]
 constructor
 ·intro hh
  have xk:x k=z k/w k:=by
   have:=hh k hk
   rw[yk] at this
   rw[<-this,iE,oD,h9,kZ]
  intro c hc
  by_cases e:c=k
  ·rw[e,ak];exact xk
  rw[ai c hc e,<-xk,<-hh c hc,yi c e];grind
 intro hh c hc
 have xk:=hh k hk
 rw[ak] at xk
 by_cases e:c=k
 ·rw[e,yk,xk,iE,oD,mO _ hwk,kZ]
 rw[yi c e,hh c hc,ai c hc e,xk];grind
def skp (p r:Nat):Nat:=if r<p then r else r+1
theorem uE {p r n:Nat} (h:r<n):skp p r<n+1:=by unfold skp;split<;>omega
theorem bAk (p r:Nat):skp p r≠p:=by unfold skp;split<;>omega
theorem bAl {p c n:Nat} (h:c<n+1) (hp:p<n+1) (hc:c≠p):∃i,i<n/\skp p i=c:=by
 by_cases e:c<p
 ·exact⟨c,by omega,if_pos e⟩
 refine⟨c-1,by omega,?_⟩
 unfold skp
 rw[if_neg oM];omega
theorem xR {f:Nat->Rat} {p:Nat}:∀{n:Nat},p<n+1->fA f (n+1)=f p+fA (λi=>f (skp p i)) n
 |0,h=>by
  obtain rfl:p=0:=by omega
  show(0:Rat)+f 0=f 0+0;grind
 |n+1,h=>by
  show fA f (n+1)+f (n+1)=f p+(fA (λi=>f (skp p i)) n+f (skp p n))
  by_cases e:p=n+1
  ·subst e
   have h1:∀m,m<=n+1->fA (λi=>f (skp (n+1) i)) m=fA f m:=λm hm=>eF λj hj=>by unfold skp;rw[if_pos oM]
   have h2:skp (n+1) n=n:=by unfold skp;rw[if_pos oM]
   rw[h2,h1 n oM]
   show fA f n+f n+f (n+1)=_
   grind
  have h2:skp p n=n+1:=by unfold skp;rw[if_neg oM]
  rw[h2,xR (f:=f) (p:=p) (n:=n) oM]
  grind
theorem aIs (s:Nat):∀n,bd (4*s+1) n=bd s (n+1)
 |0=>rfl
 |n+1=>by show 4*bd (4*s+1) n+1=4*bd s (n+1)+1;rw[aIs s n]
theorem aGe {a b:Rat} {B B':Nat} (ha:rb a B) (hb:rb b B') (hB:1<=B):rb (a/b) (B+B'):=by
 have h1:=aDj (a:=a.num*(b.den:Int)) (b:=(a.den:Int)*b.num)
 have h2:=aDk (a:=a.num*(b.den:Int)) (b:=(a.den:Int)*b.num)
 rw[aHd] at h1 h2
 have p1:=nY a.num.natAbs (b.den:Int).natAbs
 have p2:=nY (a.den:Int).natAbs b.num.natAbs
 rw[<-jT] at p1 p2
 simp only[dU] at p1 p2
 simp only[eM] at h1 h2
 obtain⟨a1,a2⟩:=ha
 obtain⟨b1,b2⟩:=hb
 exact⟨by omega,by omega⟩
theorem SolA.size:∀{n s:Nat} {a:Nat->Nat->Rat} {b xv:Nat->Rat},1<=s->(∀r j,r<n->j<n->rb (a r j) s)->(∀r,r<n->rb (b r) s)->SolA a n b xv->∀i,i<n->rb (xv i) (2*bd s n)
 |0,s,a,b,xv,_,_,_,_,i,hi=>absurd hi (aM _)
 |1,s,a,b,xv,h1,ha,hb,h,i,hi=>by
  obtain rfl:i=0:=by omega
  have he:=h.eq 0 oM
  have he':a 0 0*xv 0=b 0:=by rw[<-he];show _=(0:Rat)+_;grind
  have hne:a 0 0≠0:=λh0=>by
   have h2:=(h λc=>xv c+1).1 λk hk=>by
    obtain rfl:k=0:=by omega
    rw[<-he]
    show(0:Rat)+a 0 0*(xv 0+1)=(0:Rat)+a 0 0*xv 0
    rw[h0];grind
   have:=h2 0 oM
   have h3:(1:Rat)=0:=by grind
   exact absurd h3 dC
  have hx:xv 0=b 0/a 0 0:=by
   rw[<-he',iE,Rat.mul_comm (a 0 0),oD,iP _ hne,kZ]
  rw[hx]
  exact(aGe (hb 0 oM) (ha 0 0 oM oM) h1).le (by show s+s<=2*(4*s+1);omega)
 |n+2,s,a,b,xv,h1,ha,hb,h,i,hi=>by
  obtain⟨j,hj,hji⟩:∃j,j<n+2/\j≠i:=by
   by_cases e:i=0
   ·exact⟨1,by omega,by omega⟩
   exact⟨0,by omega,by omega⟩
  obtain⟨p,hp,hpj⟩:∃p,p<n+2/\a p j≠0:=bA λhn=>by
   have h0:∀p,p<n+2->a p j=0:=λp hp=>bA λh2=>hn ⟨p,hp,h2⟩
   have h2:=(h (upd xv j (xv j+1))).1 λk hk=>by
    rw[<-h.eq k hk]
    refine eF λc hc=>?_
    by_cases e:c=j
    ·subst e;rw[h0 k hk,eS,eS]
    rw[bK e]
   have:=h2 j hj
   rw[bP] at this
   have h3:(1:Rat)=0:=by grind
   exact absurd h3 dC
  obtain⟨i',hi',hsi⟩:=bAl hi hj (fG hji)
  have hs:=SolA.size (n:=n+1) (s:=4*s+1) (a:=λr c=>a p j*a (skp p r) (skp j c)-a (skp p r) j*a p (skp j c)) (b:=λr=>a p j*b (skp p r)-a (skp p r) j*b p) (xv:=λc=>xv (skp j c)) oM (λr c hr hc=>?_) (λr hr=>?_) (λx=>?_) i' hi'
  ·rw[aIs,hsi] at hs
   exact hs
  ·have m1:=kN (ha p j hp hj) (ha _ _ (uE (p:=p) hr) (uE (p:=j) hc))
   have m2:=kN (ha _ j (uE (p:=p) hr) hj) (ha p _ hp (uE (p:=j) hc))
   exact(xE m1 m2).le oM
  ·have m1:=kN (ha p j hp hj) (hb _ (uE (p:=p) hr))
   have m2:=kN (ha _ j (uE (p:=p) hr) hj) (hb p hp)
   exact(xE m1 m2).le oM
  have red:∀(y:Nat->Rat) (r:Nat),fA (λc=>(a p j*a (skp p r) (skp j c)-a (skp p r) j*a p (skp j c))*y (skp j c)) (n+1)=a p j*fA (λc=>a (skp p r) c*y c) (n+2)-a (skp p r) j*fA (λc=>a p c*y c) (n+2):=λy r=>by
   rw[xR (p:=j) hj,xR (f:=λc=>a p c*y c) (p:=j) hj]
   have e1:fA (λc=>(a p j*a (skp p r) (skp j c)-a (skp p r) j*a p (skp j c))*y (skp j c)) (n+1)=fA (λc=>a p j*(a (skp p r) (skp j c)*y (skp j c))+(-a (skp p r) j)*(a p (skp j c)*y (skp j c))) (n+1):=eF λc _=>by grind
   have e2:∀(f:Nat->Rat) (q:Rat) (m:Nat),fA (λc=>q*f c) m=q*fA f m:=λf q m=>by
    have:=nB (f:=λ_=>(0:Rat)) (g:=f) (q:=q) (n:=m)
    rw[mU λ_ _=>rfl,fN] at this
    rw[<-this]
    exact eF λc _=>by grind
   rw[e1,nB,e2]
   grind
  constructor
  ·intro hx c hc
   obtain⟨y,hy⟩:∃y:Nat->Rat,(∀c,c<n+1->y (skp j c)=x c)/\fA (λc=>a p c*y c) (n+2)=b p:=by
    obtain⟨un,hun⟩:∃un:Nat->Nat,∀c,un (skp j c)=c:=⟨λc=>if c<j then c else c-1,λc=>by
     show(if skp j c<j then skp j c else skp j c-1)=c
     by_cases e:c<j
     ·have:skp j c=c:=if_pos e
      rw[this,if_pos e]
     have:skp j c=c+1:=if_neg e
     rw[this,if_neg oM];rfl⟩
    refine⟨upd (λc=>x (un c)) j ((b p-fA (λc=>a p (skp j c)*x c) (n+1))/a p j),λc _=>by rw[bK (bAk j c),hun],?_⟩
    rw[xR (p:=j) hj,bP]
    have e1:fA (λc=>a p (skp j c)*upd (λc=>x (un c)) j ((b p-fA (λc=>a p (skp j c)*x c) (n+1))/a p j) (skp j c)) (n+1)=fA (λc=>a p (skp j c)*x c) (n+1):=eF λc _=>by rw[bK (bAk j c),hun]
    rw[e1]
    have h9:=iP _ hpj
    generalize a p j=q at h9
    rw[iE]
    have:q*((b p-fA (λc=>a p (skp j c)*x c) (n+1))*q⁻¹)=(b p-fA (λc=>a p (skp j c)*x c) (n+1))*(q*q⁻¹):=by grind
    rw[this,h9];grind
   obtain⟨y1,y2⟩:=hy
   have hyx:=(h y).1 λk hk=>by
    by_cases e:k=p
    ·rw[e];exact y2
    obtain⟨r,hr,rfl⟩:=bAl hk hp e
    have h3:=hx r hr
    rw[eF λc hc=>by rw[<-y1 c hc]] at h3
    rw[red y r,y2] at h3
    have h4:a p j*(fA (λc=>a (skp p r) c*y c) (n+2)-b (skp p r))=0:=by grind
    rcases pB.1 h4 with h5|h5
    ·exact absurd h5 hpj
    grind
   rw[<-y1 c hc]
   exact hyx _ (uE hc)
  intro hx r hr
  rw[eF λc hc=>by rw[hx c hc],red xv r,h.eq _ (uE hr),h.eq p hp]
def Nul (E:Nat->Nat->Rat) (r c:Nat) (x:Nat->Rat):Prop:=∀i,i<r->fA (λj=>E i j*x j) c=0
structure Ech (Q E:Nat->Nat->Rat) (r c C t:Nat) (pv:Nat->Nat):Prop where
 tr:t<=r
 lt:∀k,k<t->pv k<C
 mono:∀k l,k<l->l<t->pv k<pv l
 piv:∀k,k<t->E k (pv k)≠0
 z:∀j i,j<C->i<r->(∀k,k<t->pv k<=j->k<i)->E i j=0
 nul:∀x,Nul E r c x↔Nul Q r c x
theorem Ech.start {Q:Nat->Nat->Rat} {r c:Nat} (pv:Nat->Nat):Ech Q Q r c 0 0 pv:=⟨aC _,λ_ h=>absurd h (aM _),λ_ _ _ h=>absurd h (aM _),λ_ h=>absurd h (aM _),λ_ _ h=>absurd h (aM _),λ_=>oC⟩
theorem Ech.skip {Q E:Nat->Nat->Rat} {r c C t:Nat} {pv:Nat->Nat} (h:Ech Q E r c C t pv) (hz:∀i,t<=i->i<r->E i C=0):Ech Q E r c (C+1) t pv:=⟨h.tr,λk hk=>gD (h.lt k hk),h.mono,h.piv,λj i hj hi hk=>by
 by_cases e:j=C
 ·subst e
  refine hz i ?_ hi
  cases t with
  |zero=>exact aC _
  |succ t=>exact hk t (bN t) (eJ (h.lt t (bN t)))
 exact h.z j i oM hi hk,h.nul⟩
theorem Ech.all {Q E:Nat->Nat->Rat} {r c C:Nat} {pv:Nat->Nat} (h:Ech Q E r c C r pv) (hC:C<=c):Ech Q E r c c r pv:=⟨h.tr,λk hk=>aS (h.lt k hk) hC,h.mono,h.piv,λj i hj hi hk=>by
 by_cases e:j<C
 ·exact h.z j i e hi hk
 exact absurd (hk i hi (aH (eJ (h.lt i hi)) oM)) (rL _),h.nul⟩
def sw2 (a b i:Nat):Nat:=if i=a then b else if i=b then a else i
theorem rI {a b i r:Nat} (ha:a<r) (hb:b<r) (hi:i<r):sw2 a b i<r:=by
 unfold sw2;split
 ·exact hb
 split
 ·exact ha
 exact hi
theorem aGf {a b i:Nat}:sw2 a b (sw2 a b i)=i:=by
 unfold sw2
 by_cases h1:i=a
 ·by_cases h2:b=a
  ·simp[h1,h2]
  simp[h1,h2]
 by_cases h2:i=b
 ·simp[h2]
 simp[h1,h2]
theorem bGc {a b i j:Nat} (h:sw2 a b i=sw2 a b j):i=j:=by rw[<-aGf (a:=a) (b:=b) (i:=i),h,aGf]
theorem bPm {E:Nat->Nat->Rat} {r c a b:Nat} {x:Nat->Rat} (ha:a<r) (hb:b<r):Nul (λi=>E (sw2 a b i)) r c x↔Nul E r c x:=⟨λh i hi=>by
 have:=h (sw2 a b i) (rI ha hb hi)
 simp only[aGf] at this
 exact this,λh i hi=>h _ (rI ha hb hi)⟩
def gsE (E:Nat->Nat->Rat) (t C R:Nat) (i j:Nat):Rat:=if t<i/\i<R then E i j-E i C/E t C*E t j else E i j
theorem bPn {E:Nat->Nat->Rat} {r c t C:Nat} {x:Nat->Rat} (ht:t<r):Nul (gsE E t C r) r c x↔Nul E r c x:=by
 have key:∀i,t<i->i<r->fA (λj=>gsE E t C r i j*x j) c=fA (λj=>E i j*x j) c+ -(E i C/E t C)*fA (λj=>E t j*x j) c:=λi h1 h2=>by
  rw[<-nB]
  refine eF λj _=>?_
  unfold gsE
  rw[if_pos ⟨h1,h2⟩]
  grind
 have same:∀i,¬(t<i/\i<r)->fA (λj=>gsE E t C r i j*x j) c=fA (λj=>E i j*x j) c:=λi h=>eF λj _=>by unfold gsE;rw[if_neg h]
 constructor
 ·intro h i hi
  have h0:=h t ht
  rw[same t oM] at h0
  by_cases e:t<i
  ·have:=h i hi
   rw[key i e hi,h0,eE,cG] at this
   exact this
  rw[<-same i oM];exact h i hi
 intro h i hi
 by_cases e:t<i
 ·rw[key i e hi,h i hi,h t ht,eE,cG]
 rw[same i oM];exact h i hi
theorem Ech.step {Q E:Nat->Nat->Rat} {r c C t k:Nat} {pv:Nat->Nat} (h:Ech Q E r c C t pv) (hk:t<=k) (hkr:k<r) (hp:E k C≠0):Ech Q (gsE (λi=>E (sw2 k t i)) t C r) r c (C+1) (t+1) (upd pv t C):=by
 have htr:t<r:=dY hk hkr
 have e1:∀i,i<t->sw2 k t i=i:=λi hi=>by unfold sw2;rw[if_neg oM,if_neg oM]
 have e2:sw2 k t t=k:=by unfold sw2;split<;>simp_all
 have e3:∀i,t<=i->t<=sw2 k t i:=λi hi=>by unfold sw2;split;exact aF _;split;exact hk;exact hi
 have zz:∀j i,j<C->t<=i->i<r->E i j=0:=λj i hj hi hr=>h.z j i hj hr λk' hk' _=>aS hk' hi
 refine⟨htr,λl hl=>?_,λa b hab hb=>?_,λl hl=>?_,λj i hj hi hh=>?_,λx=>(bPn htr).trans ((bPm hkr htr).trans (h.nul x))⟩
 ·by_cases e:l=t
  ·subst e;rw[bP];exact bN C
  rw[bK e];exact gD (h.lt l oM)
 ·by_cases e:b=t
  ·subst e;rw[bP,bK oM];exact h.lt a hab
  rw[bK e,bK oM];exact h.mono a b hab oM
 ·simp only[gsE]
  rw[if_neg oM]
  by_cases e:l=t
  ·subst e;rw[bP,e2];exact hp
  rw[bK e,e1 l oM];exact h.piv l oM
 simp only[gsE]
 by_cases e:j=C
 ·subst e
  have:=hh t (bN t) (by rw[bP];exact aF _)
  rw[if_pos ⟨this,hi⟩,e2]
  rw[Rat.div_mul_cancel hp]
  grind
 have hj':j<C:=by omega
 by_cases e4:t<=i
 ·have a1:E (sw2 k t i) j=0:=zz j _ hj' (e3 i e4) (rI hkr htr hi)
  have a2:E (sw2 k t t) j=0:=zz j _ hj' (e3 t (aF t)) (rI hkr htr htr)
  rw[a1,a2,eE]
  split
  ·grind
  rfl
 rw[if_neg oM]
 rw[e1 i oM]
 refine h.z j i hj' hi λk' hk' hle=>hh k' (gD hk') ?_
 rw[bK oM];exact hle
theorem aIt {a:Nat->Rat} {x:Nat->Rat} {p:Nat} {v:Rat}:∀{n:Nat},p<n->fA (λj=>a j*upd x p v j) n=fA (λj=>a j*x j) n+a p*(v-x p)
 |0,h=>absurd h (aM _)
 |n+1,h=>by
  by_cases e:p=n
  ·subst e
   show fA _ p+a p*upd x p v p=fA _ p+a p*x p+_
   rw[bP,eF (g:=λj=>a j*x j) λj hj=>by rw[bK oM]]
   grind
  show fA _ n+a n*upd x p v n=fA _ n+a n*x n+_
  rw[aIt oM,bK oM]
  grind
theorem Ech.ind {Q E:Nat->Nat->Rat} {r c t:Nat} {pv:Nat->Nat} (h:Ech Q E r c c t pv) {j:Nat} (hj:j<c):(∃k,k<t/\pv k=j)↔¬∃x:Nat->Rat,x j=1/\(∀i,j<i->x i=0)/\Nul Q r c x:=by
 constructor
 ·rintro⟨k,hk,rfl⟩ ⟨x,h1,h2,h3⟩
  have h4:=(h.nul x).2 h3 k (aS hk h.tr)
  refine h.piv k hk ?_
  rw[xP (m:=pv k) hj λi hi=>?_,h1,kZ] at h4
  ·exact h4
  by_cases e:pv k<i
  ·rw[h2 i e,eE]
  rw[h.z i k oM (aS hk h.tr) λl hl hle=>bA λhn=>?_,eS]
  by_cases e2:l=k
  ·subst e2;omega
  have:=h.mono k l oM hl
  omega
 intro hno
 refine bA λhnp=>hno ?_
 have hne:∀k,k<t->pv k≠j:=λk hk e=>hnp ⟨k,hk,e⟩
 have cnt:∀m,m<=t->∃s,s<=m/\(∀k,k<m->(pv k<j↔k<s)):=λm=>by
  induction m with
  |zero=>exact λ_=>⟨0,aF _,λk hk=>absurd hk (aM _)⟩
  |succ m ih=>
   intro hm
   obtain⟨s,hs,hh⟩:=ih oM
   by_cases e:pv m<j
   ·refine⟨m+1,aF _,λk hk=>⟨λ_=>hk,λ_=>?_⟩⟩
    by_cases e2:k=m
    ·subst e2;exact e
    exact pL (h.mono k m oM oM) e
   refine⟨s,by omega,λk hk=>?_⟩
   by_cases e2:k=m
   ·subst e2;exact⟨λh=>absurd h e,λh=>by omega⟩
   exact hh k oM
 obtain⟨s,hs,hsk⟩:=cnt t (aF t)
 have zr:∀i l,s<=i->i<r->l<=j->E i l=0:=λi l hi hr hl=>h.z l i oM hr λk hk hle=>by
  have:=(hsk k hk).1 (by have:=hne k hk;omega)
  omega
 have main:∀d,d<=s->∃x:Nat->Rat,x j=1/\(∀i,j<i->x i=0)/\∀i,s-d<=i->i<r->fA (λl=>E i l*x l) c=0:=λd=>by
  induction d with
  |zero=>
   refine λ_=>⟨λi=>if i=j then 1 else 0,if_pos rfl,λi hi=>if_neg oM,λi hi hr=>mU λl hl=>?_⟩
   by_cases e:l=j
   ·rw[zr i l oM hr oM,eS]
   show E i l*(if l=j then 1 else 0)=0
   rw[if_neg e,eE]
  |succ d ih=>
   intro hd
   obtain⟨x,h1,h2,h3⟩:=ih oM
   obtain⟨k,hk⟩:∃k,k=s-(d+1):=⟨_,rfl⟩
   have hkt:k<t:=by omega
   have hpj:pv k<j:=(hsk k hkt).2 oM
   have hpz:=h.piv k hkt
   refine⟨upd x (pv k) (x (pv k)-fA (λl=>E k l*x l) c/E k (pv k)),(bK oM).trans h1,λi hi=>(bK oM).trans (h2 i hi),λi hi hr=>?_⟩
   rw[aIt oM]
   by_cases e:i=k
   ·subst e
    have:E i (pv i)*(x (pv i)-fA (λl=>E i l*x l) c/E i (pv i)-x (pv i))=-(fA (λl=>E i l*x l) c/E i (pv i)*E i (pv i)):=by grind
    rw[this,Rat.div_mul_cancel hpz]
    grind
   rw[h3 i oM hr]
   rw[h.z (pv k) i oM hr λl hl hle=>?_,eS,cG]
   by_cases e2:l<=k
   ·omega
   have:=h.mono k l oM hl
   omega
 obtain⟨x,h1,h2,h3⟩:=main s (aF s)
 exact⟨x,h1,h2,(h.nul x).1 λi hi=>h3 i oM hi⟩
theorem Ech.full {Q E:Nat->Nat->Rat} {r n:Nat} {t:Nat} {pv:Nat->Nat} (h:Ech Q E r n n t pv):t=n↔¬∃x:Nat->Rat,(∃i,i<n/\x i≠0)/\Nul Q r n x:=by
 have inj:∀a b,a<t->b<t->pv a=pv b->a=b:=λa b ha hb e=>by
  rcases Nat.lt_trichotomy a b with h1|h1|h1
  ·have:=h.mono a b h1 hb;omega
  ·exact h1
  have:=h.mono b a h1 ha;omega
 constructor
 ·rintro rfl ⟨x,⟨i,hi,hx⟩,h3⟩
  obtain⟨d,hd⟩:∃d,d=t-i:=⟨_,rfl⟩
  induction d using Nat.strongRecOn generalizing i with
  |ind d ih=>
   by_cases hm:∃l,i<l/\l<t/\x l≠0
   ·obtain⟨l,h1,h2,h4⟩:=hm
    exact ih (t-l) oM l h2 h4 rfl
   obtain⟨k,hk,he⟩:=sV h.lt inj i hi
   refine(h.ind hi).1 ⟨k,hk,he⟩ ⟨λl=>if l<t then (x i)⁻¹*x l else 0,?_,λl hl=>?_,λa ha=>?_⟩
   ·show(if i<t then _ else _)=_
    rw[if_pos hi];exact mO _ hx
   ·show(if l<t then _ else _)=_
    split
    ·next hlt=>rw[bA λhn=>hm ⟨l,hl,hlt,hn⟩,eE]
    rfl
   have h5:=h3 a ha
   have h6:fA (λl=>Q a l*if l<t then (x i)⁻¹*x l else 0) t=0+(x i)⁻¹*fA (λl=>Q a l*x l) t:=by
    rw[show(0:Rat)=fA (λ_=>(0:Rat)) t from (mU λ_ _=>rfl).symm,<-nB]
    refine eF λl hl=>?_
    rw[if_pos hl];grind
   rw[h6,h5,eE,cG]
 intro hno
 refine bA λhne=>?_
 have hall:∀j,j<n->∃k,k<t/\pv k=j:=λj hj=>(h.ind hj).2 λ⟨x,h1,h2,h3⟩=>hno ⟨x,⟨j,hj,by rw[h1];decide⟩,h3⟩
 have htn:t<=n:=by
  have h1:((List.range t).map pv).Nodup:=by
   rw[cQ,gE]
   refine(cQ.1 nX).imp_of_mem λ{a b} ha hb hab he=>hab (inj a b (cV.1 ha) (cV.1 hb) he)
  have:=oN h1 (n:=n) λi hi=>by
   obtain⟨k,hk,rfl⟩:=bT.1 hi
   exact h.lt k (cV.1 hk)
  simpa using this
 have h2:((List.range n).map λj=>if hj:j<n then (hall j hj).choose else 0).Nodup:=by
  rw[cQ,gE]
  refine(cQ.1 nX).imp_of_mem λ{a b} ha hb hab he=>hab ?_
  have ha':=cV.1 ha
  have hb':=cV.1 hb
  rw[dif_pos ha',dif_pos hb'] at he
  rw[<-(hall a ha').choose_spec.2,<-(hall b hb').choose_spec.2,he]
 have h3:=oN h2 (n:=t) λi hi=>by
  obtain⟨j,hj,rfl⟩:=bT.1 hi
  have hj':=cV.1 hj
  rw[dif_pos hj']
  exact(hall j hj').choose_spec.1
 simp at h3
 omega
abbrev bAm:FuncId:=27
theorem bXk:Ent Tryz.prog bAm:=aV func27 rfl kR
theorem bXl:Tryz.prog.funcs[bAm]? =some Tryz.f27:=func27
theorem bPo (r s:RatM) {a b:Rat} (hr:Rq r a 4398046511104) (hs:Rq s b 4398046511104):Ctr Tryz.prog bAm [] [.a r.C,.a s.C] [] (rG (a*b)):=by
 have ha:=hr.rb
 have hb:=hs.rb
 have m1:=sR ha.1 (b:=b.num) hb.1
 have m2:=sR (a:=(a.den:Int)) (b:=(b.den:Int)) ha.2 hb.2
 refine bE gT bXk bXl rfl rfl rfl bL aT (aA gT mxd ⟨.seq [(0,false),(3,false),(7,false),(9,false),(1,false),(2,false),(4,false),(5,false),(6,false),(8,false),(10,false),(11,false),(12,false),(13,true)],by kernel_rfl,[],fT r hr.le,rfl,rfl,rfl,λx hx=>⟨[],fT s hs.le,rfl,rfl,rfl,λy hy=>⟨[],vT x.n y.n (a:=a.num) (b:=b.num) (Ci.in hx.1 (ha.le).1) (Ci.in hy.1 (hb.le).1),rfl,rfl,rfl,λp1 h2=>⟨[],sQ r hr.le,rfl,rfl,rfl,λd1 h3=>⟨[],sQ s hs.le,rfl,rfl,rfl,λd2 h4=>⟨[],vT d1 d2 (Ci.in h3 (ha.le).2) (Ci.in h4 (hb.le).2),rfl,rfl,rfl,λp2 h5=>⟨[],uZ p1 p2 (Ci.in h2 oM) (Ci.in h5 oM),rfl,rfl,rfl,λg hg=>⟨g,?_,aO rfl rfl trivial⟩⟩⟩⟩⟩⟩⟩⟩)
 rw[<-aHc];exact hg
abbrev ecH (c:Nat) (A:Nat->Option Nat) (cap:Nat->Nat):Nat->CV:=λj=> .h (A j) c (cap j)
abbrev ec0 (d:Sl (Sl RatM)) (c i:Nat):List (Nat×DV):=[(8,.c (iC i)),(7,.c (.s 0 i)),(0,.c (xK d)),(1,.c (iC c))]
abbrev bPp (H:List CV):BL:=[(55,1,H)]
theorem bGd {A:Nat->Option Nat} {cap:Nat->Nat} {c k m:Nat} {Aa:Option Nat} {aa:Nat} (hm:m=c):(dX k (ecH c A cap)++[CV.s 1 (0+m)]).map (nO 1 Aa aa)=dX (k+1) (ecH c (upd A k Aa) (upd cap k aa)):=by
 subst hm
 rw[yG,cJ]
 refine(congrArg (·++_) ?_).trans (congrArg (_++·) ?_)
 ·unfold dX
  rw[kB]
  refine dW λj hj=>?_
  have hj':=cV.1 hj
  show nO 1 Aa aa (ecH m A cap j)=CV.h (upd A k Aa j) m (upd cap k aa j)
  rw[bK oM,bK oM];rfl
 show [CV.h Aa (0+m) aa]=[CV.h (upd A k Aa k) m (upd cap k aa k)]
 rw[bP,bP,dQ]
theorem bAn {T n k:Nat} {A:Nat->Option Nat} {cap:Nat->Nat} {R:Nat->List RatM} {l:List RatM}:(⟨T,3,n,A,cap,upd (λj=>fl RatM.C default (R j)) k (fl RatM.C default l)⟩:Fam)=⟨T,3,n,A,cap,λi=>fl RatM.C default (upd R k l i)⟩:=by
 congr 1
 funext i
 by_cases e:i=k
 ·subst e;rw[bP,bP]
 rw[bK e,bK e]
structure EcR (R:Nat->List RatM) (s:Nat->Nat) (E:Nat->Nat->Rat) (r c:Nat):Prop where
 ln:∀i,i<r->(R (s i)).length=c
 e:∀i j,i<r->j<c->Cr ((R (s i)).getD j default) (E i j)
theorem EcR.cg {R:Nat->List RatM} {s:Nat->Nat} {E E':Nat->Nat->Rat} {r c:Nat} (h:EcR R s E r c) (he:∀i j,i<r->j<c->E i j=E' i j):EcR R s E' r c:=⟨h.ln,λi j hi hj=>by rw[<-he i j hi hj];exact h.e i j hi hj⟩
theorem EcR.put {R:Nat->List RatM} {s:Nat->Nat} {E:Nat->Nat->Rat} {r c q j:Nat} {g:RatM} {v:Rat} (h:EcR R s E r c) (hs:∀i j,i<r->j<r->s i=s j->i=j) (hq:q<r) (hj:j<c) (hg:Cr g v):EcR (upd R (s q) ((R (s q)).set j g)) s (λi l=>if i=q/\l=j then v else E i l) r c:=⟨λi hi=>by
 by_cases e:i=q
 ·subst e;rw[bP,bI];exact h.ln i hi
 ·rw[bK λe2=>e (hs i q hi hq e2)];exact h.ln i hi,λi l hi hl=>by
 have hlq:=h.ln q hq
 by_cases e:i=q
 ·subst e
  rw[bP]
  by_cases e2:l=j
  ·subst e2
   rw[if_pos ⟨rfl,rfl⟩,gd (by rw[bI];omega),List.getElem_set_self];exact hg
  rw[if_neg (λhh=>e2 hh.2)]
  have:=h.e i l hi hl
  simp only[List.getD,jA (fG e2)]
  exact this
 rw[bK λe2=>e (hs i q hi hq e2),if_neg λhh=>e hh.1];exact h.e i l hi hl⟩
def gsP (E:Nat->Nat->Rat) (t C q j:Nat) (i l:Nat):Rat:=if i=q/\l<j then E q l-E q C/E t C*E t l else gsE E t C q i l
theorem aRh {E:Nat->Nat->Rat} {t C q:Nat} (i l:Nat):gsP E t C q 0 i l=gsE E t C q i l:=if_neg λh=>absurd h.2 (aM _)
theorem bAo {E:Nat->Nat->Rat} {t C q j:Nat} (i l:Nat):(if i=q/\l=j then E q j-E q C/E t C*E t j else gsP E t C q j i l)=gsP E t C q (j+1) i l:=by
 unfold gsP
 by_cases e:i=q/\l=j
 ·obtain⟨rfl,rfl⟩:=e
  rw[if_pos ⟨rfl,rfl⟩,if_pos ⟨rfl,bN _⟩]
 rw[if_neg e]
 by_cases e2:i=q/\l<j
 ·rw[if_pos e2,if_pos ⟨e2.1,by omega⟩]
 rw[if_neg e2,if_neg λh=>?_]
 by_cases e3:l=j
 ·exact e ⟨h.1,e3⟩
 exact e2 ⟨h.1,by omega⟩
theorem bGe {E:Nat->Nat->Rat} {t C q c:Nat} (hq:t<q) (i l:Nat) (hl:l<c):gsP E t C q c i l=gsE E t C (q+1) i l:=by
 unfold gsP gsE
 by_cases e:i=q
 ·subst e;rw[if_pos ⟨rfl,hl⟩,if_pos ⟨hq,bN _⟩]
 rw[if_neg λh=>e h.1]
 by_cases e2:t<i/\i<q
 ·rw[if_pos e2,if_pos ⟨e2.1,by omega⟩]
 rw[if_neg e2,if_neg λh=>e2 ⟨h.1,by omega⟩]
theorem aRi {E:Nat->Nat->Rat} {t C:Nat} (i j:Nat):gsE E t C (t+1) i j=E i j:=if_neg λh=>by omega
structure EcG where
 C:Nat
 t:Nat
 pv:Nat->Nat
 n:Int
 s:Nat->Nat
 R:Nat->List RatM
 E:Nat->Nat->Rat
structure EcI (Q:Nat->Nat->Rat) (r c B:Nat) (g:EcG):Prop where
 C:g.C<=c
 o:Ech Q g.E r c g.C g.t g.pv
 R:EcR g.R g.s g.E r c
 lt:∀i,i<r->g.s i<r
 inj:∀i j,i<r->j<r->g.s i=g.s j->i=j
 b:∀i j,i<r->j<c->rb (g.E i j) (bd B (min g.t (r-1)))
 n:g.n=1\/g.n=-1
abbrev ecL (r c:Nat) (A:Nat->Option Nat) (cap s:Nat->Nat):List CV:=dX r λi=>ecH c A cap (s i)
abbrev ec1 (r c:Nat) (g:EcG):List (Nat×DV):=[(12,.c (iC g.C)),(11,.c (iC g.t)),(10,.c (iC g.n)),(9,.c (.s 1 g.t)),(7,.c (.s 0 r)),(1,.c (iC c))]
abbrev zC (r c:Nat) (A:Nat->Option Nat) (cap:Nat->Nat) (g:EcG):BL:=[(55,1,ecL r c A cap g.s),(3,1,ioC g.t g.pv)]
theorem wA {r c:Nat} {A:Nat->Option Nat} {cap:Nat->Nat} {g:EcG}:scB 2 (zC r c A cap g):=aB (cI (aR λ_ _=>rfl)) (aB (cI (aR λ_ _=>rfl)) bJ)
theorem aIu {l:List RatM} {j:Nat} (h:j<l.length):((fl RatM.C default l).drop (j*3)).take 3=(l.getD j default).C/\(l.getD j default).C.length=3:=⟨(aXo (f:=RatM.C) (d:=default) (L:=l) (e:=3) (λ_=>rfl) j h).symm,rfl⟩
abbrev aMi (r c:Nat) (A:Nat->Option Nat) (cap:Nat->Nat) (g:EcG) (f:RatM):BL:=[(55,1,ecL r c A cap g.s),(3,1,ioC g.t g.pv),(62,0,f.C)]
theorem aGg {r c:Nat} {A:Nat->Option Nat} {cap:Nat->Nat} {g:EcG} {f:RatM}:scB 3 (aMi r c A cap g f):=aB (cI (aR λ_ _=>rfl)) (aB (cI (aR λ_ _=>rfl)) (aB rfl bJ))
theorem bGf {t C:Nat} {pv:Nat->Nat}:((3,1,ioC t pv++[iC (C:Nat)]):TypeId×Nat×List CV)=(3,1,ioC (t+1) (upd pv t C)):=by
 rw[show ioC (t+1) (upd pv t C)=ioC t (upd pv t C)++[iC (upd pv t C t:Nat)] from yG,bP,show ioC t (upd pv t C)=ioC t pv from aBn λi hi=>by rw[bK oM]]
structure EcO where
 d:Sl (Sl RatM)
 p:Sl Int
 n:Int
 E:Nat->Nat->Rat
 t:Nat
 pv:Nat->Nat
structure EcP (Q:Nat->List Rat) (r c B:Nat) (g:EcO):Prop where
 o:Ech (λi j=>(Q i).getD j 0) g.E r c c g.t g.pv
 p:g.p.l=nL g.t g.pv
 d:g.d.l.length=r
 l:∀i,i<r->(g.d.l.getD i dK).l.length=c
 e:∀i j,i<r->j<c->Cr ((g.d.l.getD i dK).l.getD j default) (g.E i j)
 b:∀i j,i<r->j<c->rb (g.E i j) (bd B (min g.t (r-1)))
theorem bPq {A:Option Addr} {c t:Nat} {pv:Nat->Nat}:CV.r A t c 1 (λj=>[iC ((nL t pv).getD j 0)])=jJ ⟨A,c,nL t pv⟩:=by
 unfold jJ Sl.R;rw[show(nL t pv).length=t by unfold nL;rw[aU,gU]]
def bXm:Ord:=.joinR (List.range 14) (.alt 14 (trS [15,1016]) (.alt 15 (trS [14,1016]) .nil))
abbrev bAp:FuncId:=201
theorem bXn:Ent Tryz.prog bAp:=aV func201 rfl kR
theorem bXo:Tryz.prog.funcs[bAp]? =some Tryz.f201:=func201
theorem bXp (d:Sl (Sl RatM)) {Q:Nat->List Rat} {r c B:Nat} (h:Rr d Q r c) (hb:∀i,i<r->rbL (Q i) B) (h1:1<=B) (hB:bd B (r-1)<=4398046511104) (hr:r<=4096) (hc:c<=4096):Ctr Tryz.prog bAp [] [.c (xK d),.c (iC c)] [] (λg:EcO=>⟨.t [.c (xK g.d),.c (jJ g.p),.c (iC g.n)],[],EcP Q r c B g⟩):=by
 have hl:=h.ln
 refine bE gT bXn bXo rfl rfl rfl bL aT (aA gT mxd ?_)
 show Sd _ _ _ _ _ _
 refine aVa tSd 7 55 1 rfl bL rfl ?_
 refine aQx tSd 62 3 r bL ?_
 refine dR (λ_=>true) (λg:Nat×(Nat->Option Nat)×(Nat->Nat)×(Nat->List RatM)=>ec0 d c g.1) (λg=>bPp (dX g.1 (ecH c g.2.1 g.2.2.1))) (λg=>[elF r g.2.1 g.2.2.1 g.2.2.2]) (λg=>g.1<=r/\(∀j,j<g.1->Rl (g.2.2.2 j) (Q j))/\∀j,g.1<=j->g.2.1 j=none) (λg=>r-g.1) λhM=>⟨cH hM (chg:=λg:Nat×(Nat->Option Nat)×(Nat->Nat)×(Nat->List RatM)=>ec0 d c g.1) (bls:=λg=>bPp (dX g.1 (ecH c g.2.1 g.2.2.1))) (fls:=λg=>[elF r g.2.1 g.2.2.1 g.2.2.2]) (0,λ_=>none,λ_=>0,λ_=>[]) ⟨aC _,λj hj=>absurd hj (aM _),λ_ _=>rfl⟩ rfl rfl ⟨rfl,trivial⟩ ⟨rfl,rfl,rfl,rfl⟩ bL (aB (cI (aR λ_ _=>rfl)) bJ) rfl,λ⟨k,A,cap,R⟩ ⟨hk,hR,hA⟩=>aA gT mxd ⟨λh2=>aA gT mxd ?_,λh2=>?_⟩⟩
 all_goals
  replace hk:k<=r:=hk
  replace hR:∀j,j<k->Rl (R j) (Q j):=hR
  replace hA:∀j,k<=j->A j=none:=hA
 ·replace h2:(k:Int)<(d.l.length:Nat):=h2
  have hkr:k<r:=by omega
  obtain⟨hrw,hrc⟩:=h.row k hkr
  have hln:(d.l.getD k dK).l.length=c:=hrw.ln.trans hrc
  refine⟨k,⟨rfl,show k<d.l.length by omega⟩,⟨λ_ _=>rfl,rfl,by simp only[maxLen];omega,by show(0+(d.l.getD k dK).l.length)*56<=_;omega,λc' hc'=>gI (aXn gJ c' hc')⟩,λc' hc'=>gI (aR (λ_ _=>rfl) c' hc'),⟨rfl,by show k*1=(dX k _).length;rw[dF,bZ],by show k+1<=maxLen;simp only[maxLen];omega,by show(k+1)*24<=_;omega,λc' hc'=>(aQ.1 hc').elim (λhc'=>gI (aR (λ_ _=>rfl) c' hc')) λhc'=>by rw[aI.1 hc'];rfl⟩,?_⟩
  refine⟨λc' hc'=>gI (aXn gJ c' hc'),(λc' hc'=>by rw[aI.1 hc'];rfl),(k+1:Nat),wi,vN tGt 1 rfl bL (λc' hc'=>aXn gJ c' hc') bL rfl λAa aa=>⟨_,bGd hln,_,rfl,bJl tGt 0 1 k rfl rfl rfl hkr (hA k (aF _)) bL rfl rfl (cH hM (chg:=λg:Nat×(Nat->Option Nat)×(Nat->Nat)×(Nat->List RatM)=>ec0 d c g.1) (bls:=λg=>bPp (dX g.1 (ecH c g.2.1 g.2.2.1))) (fls:=λg=>[elF r g.2.1 g.2.2.1 g.2.2.2]) (k+1,upd A k Aa,upd cap k aa,upd R k (d.l.getD k dK).l) ⟨⟨hkr,λj hj=>?_,λj hj=>?_⟩,show r-(k+1)<r-k by omega⟩ rfl rfl ⟨bAn,trivial⟩ ⟨rfl,rfl,rfl,rfl⟩ bL (aB (cI (aR λ_ _=>rfl)) bJ) rfl)⟩⟩
  ·show Rl (upd R k _ j) _
   by_cases hjk:j=k
   ·subst hjk;rw[bP];exact hrw
   rw[bK hjk];exact hR j (by have:j<k+1:=hj;omega)
  have hj':k+1<=j:=hj
  exact(bK oM).trans (hA j oM)
 replace h2:¬(k:Int)<(d.l.length:Nat):=h2
 obtain rfl:k=r:=by omega
 refine aA gT mxd (aA gT mxd ?_)
 show Sd _ _ _ _ _ _
 refine aVa tSd 9 3 1 rfl bL rfl ?_
 refine bRl tSd 0 rfl λhall=>?_
 have hA:∀j,j<k->0<c->∃b,A j=some b:=λj hj hc0=>hall j hj λhe=>by
  have h2:=aFv (f:=RatM.C) (d:=default) (L:=R j) (e:=3) λ_=>rfl
  rw[show fl RatM.C default (R j)=[] from he,(hR j hj).ln,(h.row j hj).2] at h2
  simp at h2
  omega
 refine dR (λ_=>true) (λg:EcG=>ec1 k c g) (λg=>zC k c A cap g) (λg=>[elF k A cap g.R]) (λg=>EcI (λi j=>(Q i).getD j 0) k c B g) (λg=>c-g.C) λhM=>⟨cH hM (chg:=λg:EcG=>ec1 k c g) (bls:=λg=>zC k c A cap g) (fls:=λg=>[elF k A cap g.R]) ⟨0,0,λ_=>0,1,λi=>i,R,λi j=>(Q i).getD j 0⟩ ⟨aC _,Ech.start _,⟨λi hi=>(hR i hi).ln.trans (h.row i hi).2,λi j hi hj=>(hR i hi).e j (by rw[(h.row i hi).2];exact hj)⟩,λ_ hi=>hi,λ_ _ _ _ e=>e,λi j hi hj=>by
  show rb _ (bd B (min 0 (k-1)))
  rw[Nat.zero_min]
  exact hb i hi _ (gD0 (by rw[(h.row i hi).2];exact hj)),.inl rfl⟩ rfl ⟨rfl,rfl⟩ ⟨rfl,trivial⟩ ⟨rfl,rfl,rfl,rfl,rfl,rfl⟩ bL wA rfl,λ⟨C,t,pv,n,s,R,E⟩ hI=>aA gT mxd ⟨λh3=>aA gT mxd ?_,λh3=>?_⟩⟩
 all_goals
  obtain⟨hC,ho,hER,hsl,hsi,hbd,hn⟩:=hI
  replace hC:C<=c:=hC
  replace ho:Ech (λi j=>(Q i).getD j 0) E k c C t pv:=ho
  replace hER:EcR R s E k c:=hER
  replace hsl:∀i,i<k->s i<k:=hsl
  replace hsi:∀i j,i<k->j<k->s i=s j->i=j:=hsi
  replace hbd:∀i j,i<k->j<c->rb (E i j) (bd B (min t (k-1))):=hbd
  replace hn:n=1\/n=-1:=hn
  replace h3:=h3
  have htk:=ho.tr
 ·replace h3:(C:Int)<(c:Nat)/\(t:Int)<(k:Nat):=h3
  have hCc:C<c:=by omega
  have htk':t<k:=by omega
  have hAs:∀i,i<k->A (s i)=some ((A (s i)).getD 0):=λi hi=>by
   obtain⟨b,hb⟩:=hA (s i) (hsl i hi) oM
   rw[hb];rfl
  have hcl:∀i,i<k->C<(R (s i)).length:=λi hi=>by rw[hER.ln i hi];exact hCc
  have hrq:∀i,i<k->Rq ((R (s i)).getD C default) (E i C) (bd B (min t (k-1))):=λi hi=>(hER.e i C hi hCc).rq (hbd i C hi hCc)
  have hbt:bd B (min t (k-1))<=4398046511104:=aH (oO oM) hB
  refine aA gT mxd ?_
  show Sd _ _ _ _ _ _
  refine dR (λ_=>true) (λm:Nat=>(13,.c (iC m))::ec1 k c ⟨C,t,pv,n,s,R,E⟩) (λ_=>zC k c A cap ⟨C,t,pv,n,s,R,E⟩) (λ_=>[elF k A cap R]) (λm=>(t<=m/\m<=k)/\∀i,t<=i->i<m->E i C=0) (λm=>k-m) λhM2=>⟨cH hM2 (chg:=λm:Nat=>(13,.c (iC m))::ec1 k c ⟨C,t,pv,n,s,R,E⟩) (bls:=λ_=>zC k c A cap ⟨C,t,pv,n,s,R,E⟩) (fls:=λ_=>[elF k A cap R]) t ⟨⟨aF t,htk⟩,λi h1 h2=>absurd h2 oM⟩ rfl ⟨rfl,rfl⟩ ⟨rfl,trivial⟩ ⟨rfl,rfl,rfl,rfl,rfl,rfl,rfl⟩ bL wA rfl,λm ⟨hm,hz⟩=>aA gT mxd ?_⟩
  replace hm:t<=m/\m<=k:=hm
  replace hz:∀i,t<=i->i<m->E i C=0:=hz
  have hmk:(m:Int)<(k:Nat)->m<k:=λh=>by omega
  refine⟨m,λhq=>⟨rfl,hmk hq,dG (hmk hq)⟩,_,λhq=>eH (hmk hq),C,(A (s m)).getD 0,λhq=>⟨rfl,hCc,hAs m (hmk hq)⟩,0,s m,λhq=>⟨hsl m (hmk hq),hAs m (hmk hq)⟩,_,λhq=>aIu (hcl m (hmk hq)),⟨λh4=>⟨[],zM _ ((hrq m (hmk h4)).le),rfl,rfl,rfl,λ_ _=>⟨λh5=>?_,λh5=>?_⟩⟩,λh4=>?_⟩⟩
  ·have hm':=hmk h4
   replace h5:sgn (E m C).num=0:=h5
   have hE0:E m C=0:=by
    have h7:=eY.1 h5
    exact cK.1 h7
   exact aA gT mxd ⟨(m+1:Nat),wi,cH hM2 (chg:=λm:Nat=>(13,.c (iC m))::ec1 k c ⟨C,t,pv,n,s,R,E⟩) (bls:=λ_=>zC k c A cap ⟨C,t,pv,n,s,R,E⟩) (fls:=λ_=>[elF k A cap R]) (m+1) ⟨⟨⟨by omega,hm'⟩,λi h1 h2=>by
    by_cases e:i=m
    ·subst e;exact hE0
    exact hz i h1 oM⟩,show k-(m+1)<k-m by omega⟩ rfl ⟨rfl,rfl⟩ ⟨rfl,trivial⟩ ⟨rfl,rfl,rfl,rfl,rfl,rfl,rfl⟩ bL wA rfl⟩
  ·have hm':=hmk h4
   replace h5:¬sgn (E m C).num=0:=h5
   have hE0:E m C≠0:=λe=>h5 (by rw[e];rfl)
   refine aA gT mxd (aA gT mxd ⟨λh6=>?_,λh6=>?_⟩)
   ·replace h6:(m:Int)=(k:Nat):=h6
    omega
   refine aA gT mxd ?_
   refine vjn (λ_=>true) (λg:(Nat->Nat)×Int=>ec1 k c ⟨C,t,pv,g.2,g.1,R,λi=>E (sw2 m t i)⟩) (λg=>zC k c A cap ⟨C,t,pv,g.2,g.1,R,λi=>E (sw2 m t i)⟩) (λg=>g.1=(λi=>s (sw2 m t i))/\(g.2=1\/g.2=-1)) ?_
   refine⟨⟨λh7=>aA gT mxd ?_,λh7=>aA gT mxd ?_⟩,λ⟨s',n'⟩ hg=>?_⟩
   ·replace h7:(m:Int)≠(t:Nat):=h7
    refine⟨.seq [(0,false),(1,false),(2,false),(3,false),(4,false),(5,false),(6,false),(7,false),(8,false),(9,false),(10,false),(11,false),(12,false),(13,true),(14,false),(15,true)],by kernel_rfl,t,⟨rfl,htk',dG htk'⟩,_,eH htk',m,⟨rfl,hm',dG hm'⟩,_,eH hm',m,⟨rfl,hm',dG hm'⟩,_,jN (c:=ecH c A cap (s t)) (Q:=λi=>if i=m then ecH c A cap (s t) else ecH c A cap (s i)) hm' (λ_ _=>rfl),t,⟨rfl,htk',dG htk'⟩,_,jN (c:=ecH c A cap (s m)) (Q:=λi=>ecH c A cap (s (sw2 m t i))) htk' (λi _=>?_),-n,wi (h:=⟨by show-n=0-n;omega,by show _<=0-n;omega,by show 0-n<=_;omega⟩),(λi=>s (sw2 m t i),-n),⟨rfl,by show-n=1\/-n=-1;omega⟩,rfl,rfl,rfl,rfl,rfl,rfl,rfl,rfl⟩
    unfold sw2
    by_cases e1:i=m
    ·rw[if_neg oM,if_pos e1,if_pos e1]
    by_cases e2:i=t
    ·rw[if_pos e2,if_neg e1,if_pos e2]
    rw[if_neg e2,if_neg e1,if_neg e1,if_neg e2]
   ·replace h7:¬(m:Int)≠(t:Nat):=h7
    refine⟨(s,n),⟨funext λi=>?_,hn⟩,rfl,rfl,rfl,rfl,rfl,rfl,rfl,rfl⟩
    have e:m=t:=by omega
    show s i=s (sw2 m t i)
    unfold sw2
    by_cases e1:i=t
    ·rw[e,if_pos e1,e1]
    rw[if_neg oM,if_neg e1]
   obtain⟨hs',hn'⟩:=hg
   replace hs':s'=λi=>s (sw2 m t i):=hs'
   replace hn':n'=1\/n'=-1:=hn'
   obtain⟨E1,hE1⟩:∃E1:Nat->Nat->Rat,E1=λi=>E (sw2 m t i):=⟨_,rfl⟩
   have hsl':∀i,i<k->s' i<k:=λi hi=>by rw[hs'];exact hsl _ (rI hm' htk' hi)
   have hsi':∀i j,i<k->j<k->s' i=s' j->i=j:=λi j hi hj e=>by
    rw[hs'] at e
    exact bGc (hsi _ _ (rI hm' htk' hi) (rI hm' htk' hj) e)
   have hER1:EcR R s' E1 k c:=⟨λi hi=>by rw[hs'];exact hER.ln _ (rI hm' htk' hi),λi j hi hj=>by rw[hs',hE1];exact hER.e _ j (rI hm' htk' hi) hj⟩
   have hbd1:∀i j,i<k->j<c->rb (E1 i j) (bd B (min t (k-1))):=λi j hi hj=>by rw[hE1];exact hbd _ j (rI hm' htk' hi) hj
   have hp1:E1 t C≠0:=by
    rw[hE1]
    show E (sw2 m t t) C≠0
    rw[show sw2 m t t=m by unfold sw2;split<;>simp_all]
    exact hE0
   have hE:=ho.step hm.1 hm' hE0
   rw[<-hE1] at hE
   clear hER hbd hAs hcl hrq hz hE0 hsl hsi
   refine⟨(t+1:Nat),wi,?_⟩
   show Sd _ _ _ _ _ _
   refine dR (λ_=>true) (λg:Nat×(Nat->List RatM)=>(14,.c (iC g.1))::ec1 k c ⟨C,t,pv,n',s',g.2,E1⟩) (λg=>zC k c A cap ⟨C,t,pv,n',s',g.2,E1⟩) (λg=>[elF k A cap g.2]) (λg=>(t+1<=g.1/\g.1<=k)/\EcR g.2 s' (gsE E1 t C g.1) k c) (λg=>k-g.1) λhM3=>⟨cH hM3 (chg:=λg:Nat×(Nat->List RatM)=>(14,.c (iC g.1))::ec1 k c ⟨C,t,pv,n',s',g.2,E1⟩) (bls:=λg=>zC k c A cap ⟨C,t,pv,n',s',g.2,E1⟩) (fls:=λg=>[elF k A cap g.2]) (t+1,R) ⟨⟨aF _,htk'⟩,hER1.cg λi j _ _=>(aRi i j).symm⟩ rfl ⟨rfl,rfl⟩ ⟨rfl,trivial⟩ ⟨rfl,rfl,rfl,rfl,rfl,rfl,rfl⟩ bL wA rfl,λ⟨q,R'⟩ ⟨hq,hR'⟩=>aA gT mxd ⟨λh8=>aA gT mxd ?_,λh8=>?_⟩⟩
   all_goals
    replace hq:t+1<=q/\q<=k:=hq
    replace hR':EcR R' s' (gsE E1 t C q) k c:=hR'
   ·replace h8:(q:Int)<(k:Nat):=h8
    have hqk:q<k:=by omega
    have hmt:min t (k-1)=t:=by omega
    rw[hmt] at hbd1 hbt
    have hB4:4*bd B t+1<=4398046511104:=aH (oO (k:=t+1) oM) hB
    have hAs:∀i,i<k->A (s' i)=some ((A (s' i)).getD 0):=λi hi=>by
     obtain⟨b,hb⟩:=hA (s' i) (hsl' i hi) oM
     rw[hb];rfl
    have hlq:C<(R' (s' q)).length:=by rw[hR'.ln q hqk];exact hCc
    have hlt:C<(R' (s' t)).length:=by rw[hR'.ln t htk'];exact hCc
    have gq:∀j,gsE E1 t C q q j=E1 q j:=λj=>if_neg λh=>by omega
    have gt:∀j,gsE E1 t C q t j=E1 t j:=λj=>if_neg λh=>by omega
    have rq:Rq ((R' (s' q)).getD C default) (E1 q C) (bd B t):=by
     have:=hR'.e q C hqk hCc
     rw[gq] at this
     exact this.rq (hbd1 q C hqk hCc)
    have rt:Rq ((R' (s' t)).getD C default) (E1 t C) (bd B t):=by
     have:=hR'.e t C htk' hCc
     rw[gt] at this
     exact this.rq (hbd1 t C htk' hCc)
    refine⟨bXm,by kernel_rfl,RatM,λf=>⟨((15,.c (.p 2 0))::(14,.c (iC q))::ec1 k c ⟨C,t,pv,n',s',R',E1⟩)++[],[],aMi k c A cap ⟨C,t,pv,n',s',R',E1⟩ f,[elF k A cap R']⟩,λf=>Cr f (E1 q C/E1 t C),⟨q,⟨rfl,hqk,dG hqk⟩,_,eH hqk,C,_,⟨rfl,hCc,hAs q hqk⟩,0,s' q,⟨hsl' q hqk,hAs q hqk⟩,_,aIu hlq,t,⟨rfl,htk',dG htk'⟩,_,eH htk',C,_,⟨rfl,hCc,hAs t htk'⟩,0,s' t,⟨hsl' t htk',hAs t htk'⟩,_,aIu hlt,?_,?_⟩,λf hf=>?_⟩
    ·exact⟨[],aOj _ _ (rq.le) (rt.le) hp1,rfl,rfl,rfl,λf hf=>cH (M:=λ_=>true) (base:=[]) (chg:=λ_:RatM=>(15,.c (.p 2 0))::(14,.c (iC q))::ec1 k c ⟨C,t,pv,n',s',R',E1⟩) (bls:=λf=>aMi k c A cap ⟨C,t,pv,n',s',R',E1⟩ f) (fls:=λ_=>[elF k A cap R']) (λt d ht=>by cases ht) f hf rfl ⟨rfl,rfl,rfl⟩ ⟨rfl,trivial⟩ ⟨rfl,rfl,rfl,rfl,rfl,rfl,rfl,rfl⟩ bL aGg rfl⟩
    ·exact⟨[],aOj _ _ (rq.le) (rt.le) hp1,rfl,rfl,rfl,λf hf=>cH (M:=λ_=>true) (base:=[]) (chg:=λ_:RatM=>(15,.c (.p 2 0))::(14,.c (iC q))::ec1 k c ⟨C,t,pv,n',s',R',E1⟩) (bls:=λf=>aMi k c A cap ⟨C,t,pv,n',s',R',E1⟩ f) (fls:=λ_=>[elF k A cap R']) (λt d ht=>by cases ht) f hf rfl ⟨rfl,rfl,rfl⟩ ⟨rfl,trivial⟩ ⟨rfl,rfl,rfl,rfl,rfl,rfl,rfl,rfl⟩ bL aGg rfl⟩
    replace hf:Cr f (E1 q C/E1 t C):=hf
    have rf:rb (E1 q C/E1 t C) (bd B t+bd B t):=aGe (hbd1 q C hqk hCc) (hbd1 t C htk' hCc) (aBv h1 t)
    show Sd _ _ _ _ _ _
    refine dR (λ_=>true) (λg:Nat×(Nat->List RatM)=>(16,.c (iC g.1))::(15,.c (.p 2 0))::(14,.c (iC q))::ec1 k c ⟨C,t,pv,n',s',g.2,E1⟩) (λg=>aMi k c A cap ⟨C,t,pv,n',s',g.2,E1⟩ f) (λg=>[elF k A cap g.2]) (λg=>g.1<=c/\EcR g.2 s' (gsP E1 t C q g.1) k c) (λg=>c-g.1) λhM4=>⟨cH hM4 (chg:=λg:Nat×(Nat->List RatM)=>(16,.c (iC g.1))::(15,.c (.p 2 0))::(14,.c (iC q))::ec1 k c ⟨C,t,pv,n',s',g.2,E1⟩) (bls:=λg=>aMi k c A cap ⟨C,t,pv,n',s',g.2,E1⟩ f) (fls:=λg=>[elF k A cap g.2]) (0,R') ⟨aC _,hR'.cg λi j _ _=>(aRh i j).symm⟩ rfl ⟨rfl,rfl,rfl⟩ ⟨rfl,trivial⟩ ⟨rfl,rfl,rfl,rfl,rfl,rfl,rfl,rfl,rfl⟩ bL aGg rfl,λ⟨j,S⟩ ⟨hj,hS⟩=>aA gT mxd ⟨λh9=>aA gT mxd ?_,λh9=>?_⟩⟩
    all_goals
     replace hj:j<=c:=hj
     replace hS:EcR S s' (gsP E1 t C q j) k c:=hS
    ·replace h9:(j:Int)<(c:Nat):=h9
     have hjc:j<c:=by omega
     have ljq:j<(S (s' q)).length:=by rw[hS.ln q hqk];exact hjc
     have ljt:j<(S (s' t)).length:=by rw[hS.ln t htk'];exact hjc
     have pq:gsP E1 t C q j q j=E1 q j:=(if_neg λh=>by omega).trans (gq j)
     have pt:gsP E1 t C q j t j=E1 t j:=(if_neg λh=>by omega).trans (gt j)
     have rsq:Rq ((S (s' q)).getD j default) (E1 q j) (bd B t):=by
      have:=hS.e q j hqk hjc
      rw[pq] at this
      exact this.rq (hbd1 q j hqk hjc)
     have rst:Rq ((S (s' t)).getD j default) (E1 t j) (bd B t):=by
      have:=hS.e t j htk' hjc
      rw[pt] at this
      exact this.rq (hbd1 t j htk' hjc)
     refine⟨.seq (sq 23 (List.range 24)),by kernel_rfl,q,⟨rfl,hqk,dG hqk⟩,_,eH hqk,q,⟨rfl,hqk,dG hqk⟩,_,eH hqk,j,_,⟨rfl,hjc,hAs q hqk⟩,0,s' q,⟨hsl' q hqk,hAs q hqk⟩,_,aIu ljq,t,⟨rfl,htk',dG htk'⟩,_,eH htk',j,_,⟨rfl,hjc,hAs t htk'⟩,0,s' t,⟨hsl' t htk',hAs t htk'⟩,_,aIu ljt,[],bPo f _ ((Cr.rq hf rf).le) (rst.le),rfl,rfl,rfl,λx hx=>⟨[],bMb _ x (rsq.le) ((Cr.rq hx (kN rf (hbd1 t j htk' hjc))).le),rfl,rfl,rfl,λg hg=>⟨j,_,⟨rfl,hjc,hAs q hqk⟩,0,s' q,_,⟨hsl' q hqk,hAs q hqk,aPc (f:=RatM.C) (d:=default) (L:=S (s' q)) (e:=3) (λ_=>rfl) ljq⟩,(j+1:Nat),wi,cH hM4 (chg:=λg:Nat×(Nat->List RatM)=>(16,.c (iC g.1))::(15,.c (.p 2 0))::(14,.c (iC q))::ec1 k c ⟨C,t,pv,n',s',g.2,E1⟩) (bls:=λg=>aMi k c A cap ⟨C,t,pv,n',s',g.2,E1⟩ f) (fls:=λg=>[elF k A cap g.2]) (j+1,upd S (s' q) ((S (s' q)).set j g)) ⟨⟨hjc,(hS.put hsi' hqk hjc hg).cg λi l _ _=>bAo i l⟩,show c-(j+1)<c-j by omega⟩ rfl ⟨rfl,rfl,rfl⟩ ⟨bAn,trivial⟩ ⟨rfl,rfl,rfl,rfl,rfl,rfl,rfl,rfl,rfl⟩ bL aGg rfl⟩⟩⟩
    replace h9:¬(j:Int)<(c:Nat):=h9
    obtain rfl:j=c:=by omega
    refine aA gT mxd ⟨(q+1:Nat),wi,cH hM3 (chg:=λg:Nat×(Nat->List RatM)=>(14,.c (iC g.1))::ec1 k j ⟨C,t,pv,n',s',g.2,E1⟩) (bls:=λg=>zC k j A cap ⟨C,t,pv,n',s',g.2,E1⟩) (fls:=λg=>[elF k A cap g.2]) (q+1,S) ⟨⟨⟨by omega,hqk⟩,hS.cg λi l _ hl=>bGe oM i l hl⟩,show k-(q+1)<k-q by omega⟩ rfl ⟨rfl,rfl⟩ ⟨rfl,trivial⟩ ⟨rfl,rfl,rfl,rfl,rfl,rfl,rfl⟩ bL wA rfl⟩
   replace h8:¬(q:Int)<(k:Nat):=h8
   obtain rfl:q=k:=by omega
   have htq:t<=4096:=by omega
   refine aA gT mxd (aA gT mxd ⟨⟨rfl,by show t*1=(ioC t pv).length;rw[dF,bZ],by show t+1<=maxLen;simp only[maxLen];omega,by show(t+1)*8<=_;omega,λc' hc'=>(aQ.1 hc').elim (λhc'=>gI (aR (λ_ _=>rfl) c' hc')) λhc'=>by rw[aI.1 hc'];rfl⟩,λc' hc'=>gI (aR (λ_ _=>rfl) c' hc'),(λc' hc'=>by rw[aI.1 hc'];rfl),(t+1:Nat),wi,?_⟩)
   refine⟨(C+1:Nat),wi,cH hM (chg:=λg:EcG=>ec1 q c g) (bls:=λg=>zC q c A cap g) (fls:=λg=>[elF q A cap g.R]) ⟨C+1,t+1,upd pv t C,n',s',R',gsE E1 t C q⟩ ⟨⟨hCc,hE,hR',hsl',hsi',λi j hi hj=>?_,hn'⟩,show c-(C+1)<c-C by omega⟩ rfl ⟨rfl,bGf⟩ ⟨rfl,trivial⟩ ⟨rfl,rfl,rfl,rfl,rfl,rfl⟩ bL wA rfl⟩
   show rb (gsE E1 t C q i j) (bd B (min (t+1) (q-1)))
   unfold gsE
   split
   ·next hh=>
    have e1:min t (q-1)=t:=by omega
    have e2:min (t+1) (q-1)=t+1:=by omega
    rw[e1] at hbd1
    rw[e2]
    have:=xE (hbd1 i j hi hj) (kN (aGe (hbd1 i C hi hCc) (hbd1 t C htk' hCc) (aBv h1 t)) (hbd1 t j htk' hj))
    exact this.le (by show _<=4*bd B t+1;omega)
   exact(hbd1 i j hi hj).le (oO oM)
  have hmk2:m=k:=by
   replace h4:¬(m:Int)<(k:Nat):=h4
   omega
  refine aA gT mxd ⟨λh6=>aA gT mxd ⟨(C+1:Nat),wi,cH hM (chg:=λg:EcG=>ec1 k c g) (bls:=λg=>zC k c A cap g) (fls:=λg=>[elF k A cap g.R]) ⟨C+1,t,pv,n,s,R,E⟩ ⟨⟨hCc,ho.skip λi h1 h2=>hz i h1 oM,hER,hsl,hsi,hbd,hn⟩,show c-(C+1)<c-C by omega⟩ rfl ⟨rfl,rfl⟩ ⟨rfl,trivial⟩ ⟨rfl,rfl,rfl,rfl,rfl,rfl⟩ bL wA rfl⟩,λh6=>absurd (congrArg Int.ofNat hmk2) h6⟩
 have hoc:Ech (λi j=>(Q i).getD j 0) E k c c t pv:=by
  by_cases e:C=c
  ·rw[<-e] at ho ⊢;exact ho
  have e2:t=k:=by
   replace h3:¬((C:Int)<(c:Nat)/\(t:Int)<(k:Nat)):=h3
   omega
  subst e2
  exact ho.all hC
 refine aA gT mxd ?_
 show Sd _ _ _ _ _ _
 have hfr:∀j,j<k->FrC (elF k A cap R) (ecH c A cap (s j)) (fZ (rwS A cap R (s j))):=λj hj=>by
  rw[show ecH c A cap (s j)=hdR A cap R (s j) from congrArg (λm=>CV.h (A (s j)) m (cap (s j))) (hER.ln j hj).symm]
  exact bHp (s j) (hsl j hj)
 refine tE tSd 0 0 (dX k λj=>fZ (rwS A cap R (s j))) rfl rfl rfl (by rw[dF,dF]) (aFr hfr) ?_
 refine aKa 7 0 (λj=>[fZ ((rX (λi=>rwS A cap R (s i)) k).getD j dK)]) rfl rfl aPa (by rw[dF,bZ]) bL (aR λ_ _=>rfl) bL λA2 c2 _ _=>⟨cm (aR λ_ _=>rfl),?_⟩
 show Sd _ _ _ _ _ _
 refine aKa 9 1 (λj=>[iC ((nL t pv).getD j 0)]) rfl rfl (λj hj=>aZn j hj) (by rw[dF,bZ]) bL (aR λ_ _=>rfl) bL λPA pc _ _=>⟨(λc' hc'=>by cases hc'),aA gT mxd ⟨⟨⟨A2,c2,rX (λi=>rwS A cap R (s i)) k⟩,⟨PA,pc,nL t pv⟩,n,E,t,pv⟩,⟨hoc,rfl,yH,λi hi=>?_,λi j hi hj=>?_,hbd⟩,aO ⟨aPb,bPq,rfl⟩ rfl trivial⟩⟩
 ·show((rX (λi=>rwS A cap R (s i)) k).getD i dK).l.length=c
  rw[xL hi];exact hER.ln i hi
 show Cr (((rX (λi=>rwS A cap R (s i)) k).getD i dK).l.getD j default) (E i j)
 rw[xL hi];exact hER.e i j hi hj
abbrev mQ (M:Nat->List En) (i j:Nat):Rat:=Vm.get (M i) (j:Nat)
theorem Ech.cg {Q Q' E:Nat->Nat->Rat} {r c C t:Nat} {pv:Nat->Nat} (h:Ech Q E r c C t pv) (hq:∀i j,i<r->j<c->Q i j=Q' i j):Ech Q' E r c C t pv:=⟨h.tr,h.lt,h.mono,h.piv,h.z,λx=>(h.nul x).trans ⟨λhh i hi=>by rw[<-hh i hi];exact eF λj hj=>by rw[hq i j hi hj],λhh i hi=>by rw[<-hh i hi];exact eF λj hj=>by rw[hq i j hi hj]⟩⟩
structure InP (M:Nat->List En) (a b:Nat) (p:Sl Int):Prop where
 ex:∃(E:Nat->Nat->Rat) (t:Nat) (pv:Nat->Nat),p.l=nL t pv/\Ech (mQ M) E a b b t pv
theorem Mr.mok' {m:MatM} {M:Nat->List En} {a b B:Nat} (h:Mg m M B) (hv:MOk m M) (hr:m.r=(a:Nat)) (hc:m.c=(b:Nat)):Mr m M a b B:=⟨hr,hc,by have:=hv.2.2.1;omega,λi hi=>h i (by have:=hv.2.2.1;omega),λi hi=>by
 have h1:=hv.2.2.2 i (by have:=hv.2.2.1;omega)
 rw[hc] at h1
 exact⟨h1,kO h1⟩⟩
abbrev bAq:FuncId:=188
theorem bXq:Ent Tryz.prog bAq:=aV func188 rfl kR
theorem bXr:Tryz.prog.funcs[bAq]? =some Tryz.f188:=func188
theorem bPr (m:MatM) {M:Nat->List En} {a b B:Nat} (h:Mr m M a b B) (hb:rbM M a B) (h1:1<=B) (hB:bd B (a-1)<=4398046511104) (ha:a<=4096) (hbn:b<=4096):Ctr Tryz.prog bAq [] [.a m.C] [] (λg:Sl Int=>⟨.t [.c (jJ g),.c (iC 0)],[],InP M a b g⟩):=by
 have h':=h
 obtain⟨mr,mc,md⟩:=m
 obtain rfl:mr=(a:Nat):=h.r
 obtain rfl:mc=(b:Nat):=h.c
 have hBB:B<=4398046511104:=aH (oO (aC (a-1))) hB
 have dn:∀i,i<a->rbL (dnL (M i) b) B:=λi hi q hq=>by
  obtain⟨j,_,rfl⟩:=bT.1 hq
  exact nS (h.ok i hi).1.1 (hb i hi) h1
 refine bE gT bXq bXr rfl rfl rfl bL aT (aA gT mxd ⟨[],bNx _ h' oM ha hbn,rfl,rfl,rfl,λ_ _=>⟨λhh=>absurd trivial hh,λ_=>aA gT mxd ⟨.seq [(0,false),(2,false),(3,false),(1,false),(4,true),(5,false),(6,false),(7,false),(8,false),(9,false),(10,false),(11,false)],by kernel_rfl,[],aYl _ h' hb h1 hBB ha hbn,rfl,rfl,rfl,λd hd=>⟨[],bXp d hd dn h1 hB ha hbn,rfl,rfl,rfl,λg hg=>⟨g.p,⟨g.E,g.t,g.pv,hg.p,?_⟩,aO ⟨rfl,rfl⟩ rfl trivial⟩⟩⟩⟩⟩)
 exact hg.o.cg λi j hi hj=>aFq hj
abbrev bAr:FuncId:=121
theorem bXs:Ent Tryz.prog bAr:=aV func121 rfl kR
theorem bXt:Tryz.prog.funcs[bAr]? =some Tryz.f121:=func121
theorem bPs (m:MatM) {M:Nat->List En} {a b B:Nat} (h:Mr m M a b B) (hb:rbM M a B) (h1:1<=B) (hB:bd B (a-1)<=4398046511104) (ha:a<=4096) (hbn:b<=4096):Ctr Tryz.prog bAr [] [.a m.C] [] (λg:Nat=>⟨.c (iC g),[],∃(E:Nat->Nat->Rat) (pv:Nat->Nat),Ech (mQ M) E a b b g pv⟩):=by
 refine bE gT bXs bXt rfl rfl rfl bL aT (aA gT mxd ⟨[],bPr m h hb h1 hB ha hbn,rfl,rfl,rfl,λg hg=>?_⟩)
 obtain⟨E,t,pv,hp,he⟩:=hg.ex
 obtain rfl:t=g.l.length:=by rw[hp];unfold nL;rw[aU,gU]
 exact⟨g.l.length,⟨E,pv,he⟩,aO rfl rfl trivial⟩
structure FeR (m:MatM) (M:Nat->List En) (e:Int):Prop where
 bad:¬MOk m M->e=1
 shp:MOk m M->m.r≠m.c->e=4
 sq:∀n:Nat,MOk m M->m.r=(n:Nat)->m.c=(n:Nat)->(Ker M n->e=6)/\(¬Ker M n->e=0)
theorem bGg {M:Nat->List En} {n t:Nat} {E:Nat->Nat->Rat} {pv:Nat->Nat} (h:Ech (mQ M) E n n n t pv):t<n↔Ker M n:=by
 have h1:=h.full
 have h2:=h.tr
 constructor
 ·intro ht
  exact bA λhn=>by
   have:=h1.2 λ⟨x,hx,hz⟩=>hn ⟨x,hx,hz⟩
   omega
 rintro⟨x,hx,hz⟩
 exact bA λhn=>h1.1 oM ⟨x,hx,hz⟩
abbrev bPt:FuncId:=48
theorem cBt:Ent Tryz.prog bPt:=aV func48 rfl kR
theorem cBu:Tryz.prog.funcs[bPt]? =some Tryz.f48:=func48
theorem bXu (m:MatM) {M:Nat->List En} {B:Nat} (h:Mg m M B) (hb:∀i,i<m.d.l.length->rbE (M i) B) (h1:1<=B) (hB:bd B (m.d.l.length-1)<=4398046511104) (hn:m.d.l.length<=4096) (hl:∀i,i<m.d.l.length->(M i).length<=4611686018427387904):Ctr Tryz.prog bPt [] [.a m.C] [] (λe:Int=>⟨.c (iC e),[],FeR m M e⟩):=by
 have hBB:B<=4398046511104:=aH (oO (aC (m.d.l.length-1))) hB
 refine bE gT cBt cBu rfl rfl rfl bL aT (aA gT mxd ⟨[],aYh m h oM oM hl,rfl,rfl,rfl,λ_ _=>⟨λh2=>aA gT mxd ?_,λh2=>aA gT mxd ⟨λh3=>aA gT mxd ?_,λh3=>aA gT mxd ?_⟩⟩⟩)
 ·exact⟨1,⟨λ_=>rfl,λhh=>absurd hh h2,λ_ hh=>absurd hh h2⟩,aO rfl rfl trivial⟩
 ·replace h3:m.r≠m.c:=h3
  have hv:MOk m M:=eO.1 h2
  exact⟨4,⟨λhh=>absurd hv hh,λ_ _=>rfl,λn _ e1 e2=>absurd (e1.trans e2.symm) h3⟩,aO rfl rfl trivial⟩
 replace h3:¬m.r≠m.c:=h3
 have hv:MOk m M:=eO.1 h2
 obtain⟨n,hr⟩:∃n:Nat,m.r=(n:Nat):=⟨m.d.l.length,hv.2.2.1.symm⟩
 have hnl:m.d.l.length=n:=by have:=hv.2.2.1;omega
 have hc:m.c=(n:Nat):=by omega
 have hM:Mr m M n n B:=Mr.mok' h hv hr hc
 have hbM:rbM M n B:=λi hi=>hb i oM
 refine⟨.seq [(0,false),(2,false),(3,false),(1,false),(4,false),(5,false)],by kernel_rfl,[],bPs m hM hbM h1 (by rw[<-hnl];exact hB) oM oM,rfl,rfl,rfl,λt ht=>?_⟩
 obtain⟨E,pv,he⟩:=ht
 have hk:=bGg he
 refine⟨λh4=>aA gT mxd ?_,λh4=>aA gT mxd ?_⟩
 ·replace h4:(t:Int)<m.r:=h4
  have hker:=hk.1 oM
  exact⟨6,⟨λhh=>absurd hv hh,λ_ hh=>absurd hh h3,λn' _ e1 _=>by
   obtain rfl:n'=n:=by omega
   exact⟨λ_=>rfl,λhh=>absurd hker hh⟩⟩,aO rfl rfl trivial⟩
 replace h4:¬(t:Int)<m.r:=h4
 exact⟨0,⟨λhh=>absurd hv hh,λ_ hh=>absurd hh h3,λn' _ e1 _=>by
  obtain rfl:n'=n:=by omega
  exact⟨λhh=>absurd (hk.2 hh) oM,λ_=>rfl⟩⟩,aO rfl rfl trivial⟩
abbrev sB (B n:Nat):Nat:=2*bd B n
structure IvT (n:Nat) (f:LuM) (L:List StpM) (a:Nat->Nat->Rat) (F B:Nat) (M:Nat->List En) (rw cl:Nat->Nat) (Lw Up:Nat->List En) (R:List StpR) (am:Nat->Nat->Nat->Rat):Prop where
 g:LuG f M n rw cl Lw Up F
 ln:L.length=R.length
 st:∀j,j<R.length->StpOk (L.getD j default) (R.getD j default) n (sB B n)
 a0:am 0=enM M
 ae:am R.length=a
 sm:∀j,j<=R.length->∀r c,r<n->c<n->rb (am j r c) B
 nx:∀j,j<R.length->∀b z,SolA (am j) n b z->SolA (am (j+1)) n b ((R.getD j default).ap z)
def IvOk (n:Nat) (f:LuM) (L:List StpM) (a:Nat->Nat->Rat) (F B:Nat):Prop:=∃M rw cl Lw Up R am,IvT n f L a F B M rw cl Lw Up R am
theorem IvT.sol {n:Nat} {f:LuM} {L:List StpM} {a:Nat->Nat->Rat} {F B:Nat} {M:Nat->List En} {rw cl:Nat->Nat} {Lw Up:Nat->List En} {R:List StpR} {am:Nat->Nat->Nat->Rat} (h:IvT n f L a F B M rw cl Lw Up R am) {b z:Nat->Rat} (hz:Sol M n b z):∀j,j<=R.length->SolA (am j) n b (yL (R.take j) z)
 |0,_=>by rw[h.a0];exact hz
 |j+1,hj=>by rw[yM oM];exact h.nx j oM b _ (h.sol hz j oM)
structure IvB (n F B:Nat):Prop where
 hn:n<=4096
 h1:1<=F
 hF:F<=4398046511104
 b1:1<=B
 hB:yb (zb B F n) F n<=4398046511104
 hS:sB B n+sB B n<=4398046511104
theorem IvB.bs {n F B:Nat} (h:IvB n F B):B<=sB B n:=by
 have:B<=bd B n:=oO (aC n)
 show B<=2*bd B n
 omega
theorem IvB.sB1 {n F B:Nat} (h:IvB n F B):1<=sB B n:=aH h.b1 h.bs
theorem bPu (z:ZT) (v:IvM) (b:Sl RatM) {n F B:Nat} {a:Nat->Nat->Rat} {bv:Nat->Rat} (h:IvOk n v.f v.L a F B) (hi:IvB n F B) (hb:b.l.length=n) (hbv:∀k,k<n->Cr (b.l.getD k default) (bv k)/\rb (bv k) B) (hLn:v.L.length<=4096):
 CtrF Tryz.prog xQ bAb [.c (.p 0 0),.c (fZ b)] (ivB z n v) (ivF v) (λg:(Nat->RatM)×(Nat->Rat)=>⟨.t [.c (.s 2 n),.c (iC 0)],ivB z n v++[(62,3,rtC n g.1)],ivF v,SolA a n bv g.2/\∀i,i<n->Cr (g.1 i) (g.2 i)/\rb (g.2 i) (sB B n)⟩):=by
 obtain⟨M,rw,cl,Lw,Up,R,am,hT⟩:=h
 refine(bAf z v b hT.g hi.h1 hi.hn hb hbv hi.b1 hi.hF hi.hB hT.ln hLn hT.st hi.sB1 hi.hS λx hx j hj i hin=>(hT.sol hx j hj).size hi.b1 (hT.sm j hj) (λr hr=>(hbv r hr).2) i hin).re λ⟨Z,z⟩ ⟨h1,h2⟩=>⟨(Z,yL R z),⟨?_,h2⟩,rfl,rfl,rfl⟩
 have:=hT.sol h1 R.length (aF _)
 rwa [cU,hT.ae] at this
theorem bAs (v:IvM) (b:Sl RatM) {n F B:Nat} {a:Nat->Nat->Rat} {bv:Nat->Rat} (h:IvOk n v.f v.L a F B) (hi:IvB n F B) (hb:b.l.length=n) (hbv:∀k,k<n->Cr (b.l.getD k default) (bv k)/\rb (bv k) B) (hLn:v.L.length<=4096):
 CtrF Tryz.prog xQ bAb [.c (.p 0 0),.c (fZ b)] (ivB none n v) (ivF v) (λg:(Nat->RatM)×(Nat->Rat)=>⟨.t [.c (.s 2 n),.c (iC 0)],ivB none n v++[(62,3,rtC n g.1)],ivF v,SolA a n bv g.2/\∀i,i<n->Cr (g.1 i) (g.2 i)/\rb (g.2 i) (sB B n)⟩):=bPu none v b h hi hb hbv hLn
theorem IvOk.new {n F B:Nat} {f:LuM} {M:Nat->List En} {rw cl:Nat->Nat} {Lw Up:Nat->List En} (h:LuG f M n rw cl Lw Up F) (hM:rbM M n B) (ho:∀r,r<n->Asc (M r)) (h1:1<=B):IvOk n f [] (enM M) F B:=
 ⟨M,rw,cl,Lw,Up,[],λ_=>enM M,h,rfl,λj hj=>absurd hj (aM _),rfl,rfl,λj _ r c hr _=>nS (ho r hr) (hM r hr) h1,λj hj=>absurd hj (aM _)⟩
theorem IvOk.snoc {n F B k:Nat} {f:LuM} {L:List StpM} {a a':Nat->Nat->Rat} {w v:Nat->Rat} {S:StpM} {s:StpR} (h:IvOk n f L a F B) (hs:StpOk S s n (sB B n)) (hk:k<n) (hw:SolA a n v w) (hwk:w k≠0) (ha:∀r j,r<n->j<n->a' r j=if j=k then v r else a r j) (sk:s.k=k) (sp:s.p=w k) (so:∀i,i<n->i≠k->Vm.get s.o (i:Nat)=w i) (hv:∀r,r<n->rb (v r) B):IvOk n f (L++[S]) a' F B:=by
 obtain⟨M,rw,cl,Lw,Up,R,am,hT⟩:=h
 have hl:=hT.ln
 have gl:∀{α:Type} [Inhabited α] (l:List α) (x:α) (j:Nat),j<l.length->(l++[x]).getD j default=l.getD j default:=λl x j hj=>by rw[aZ,bO hj,aZ]
 have ge:∀{α:Type} [Inhabited α] (l:List α) (x:α),(l++[x]).getD l.length default=x:=λl x=>by rw[aZ,bV (aF _),jY];rfl
 refine⟨M,rw,cl,Lw,Up,R++[s],upd am (R.length+1) a',hT.g,by simp[hl],λj hj=>?_,by rw[bK oM];exact hT.a0,by rw[aJ];exact bP,λj hj r c hr hc=>?_,λj hj b z hz=>?_⟩
 ·simp at hj
  by_cases e:j=R.length
  ·subst e;rw[ge R s,<-hl,ge L S];exact hs
  rw[gl R s j oM,gl L S j oM];exact hT.st j oM
 ·simp at hj
  by_cases e:j=R.length+1
  ·subst e
   rw[bP,ha r c hr hc]
   split
   ·exact hv r hr
   rw[<-hT.ae];exact hT.sm _ (aF _) r c hr hc
  rw[bK e];exact hT.sm j oM r c hr hc
 simp at hj
 by_cases e:j=R.length
 ·subst e
  rw[bP,ge R s]
  rw[bK oM,hT.ae] at hz
  exact hz.rep hk hw.eq hwk ha sk sp so
 rw[bK oM,gl R s j oM]
 rw[bK oM] at hz
 exact hT.nx j oM b z hz
end Go.Proofs.YtghncoghdcmdfaaGreat
