/- the law UpdateNew and what it stands on Part 6 of 6: Ss St Su Ke Sv Kf Zw. -/
import Derived.Test.YtghncoghdcmdfaaGreatRows
import Derived.WalkKit
import Derived.ProofKit
import Derived.OpenShut
import Derived.JoinedCond
import Derived.ShutString
import Derived.ChangeOld
import Derived.Below
import Derived.Deep.SlicePairs
import Derived.Test.YtghncoghdcmdfaaGreatH5
set_option maxHeartbeats 4000000
set_option linter.unusedVariables false
set_option linter.unusedSimpArgs false
namespace Go.Proofs.YtghncoghdcmdfaaGreat
open Go.Vg _root_.Go.Proofs.Tryz
open Go.Vm
open Go.Vy hiding val
set_option maxRecDepth 20000
def oth (fs:List En) (k t:Nat):List En:=(fs.take t).filter λe=>!decide (e.1=(k:Nat))
theorem aIv {fs:List En} {k t:Nat} (h:t<fs.length):oth fs k (t+1)=if (fs.getD t default).1=(k:Nat) then oth fs k t else oth fs k t++[fs.getD t default]:=by
 unfold oth
 rw[yI h,List.filter_append]
 by_cases e:(fs.getD t default).1=(k:Nat)
 ·rw[if_pos e,List.filter_cons_of_neg (by rw[decide_eq_true e];decide),List.filter_nil,dL]
 rw[if_neg e,List.filter_cons_of_pos (by rw[decide_eq_false e];decide),List.filter_nil]
theorem aGh {fs:List En} {k:Nat} {t:Nat}:∀e∈oth fs k t,e∈fs/\e.1≠(k:Nat):=λe he=>by
 obtain⟨h1,h2⟩:=mI.1 he
 exact⟨cW h1,by simpa using h2⟩
theorem bGh {fs:List En} {k t:Nat}:(oth fs k t).length<=t:=aH (List.length_filter_le _ _) (List.length_take_le _ _)
theorem bPv {fs:List En} {k n:Nat} (h:VOk fs (n:Nat)):VOk (oth fs k fs.length) (n:Nat):=⟨by
 unfold oth;rw[cU];exact h.1.sublist List.filter_sublist,λe he=>h.2 e (aGh e he).1⟩
theorem bGi {fs:List En} {k:Nat} {i:Int} (hi:i≠(k:Nat)):Vm.get (oth fs k fs.length) i=Vm.get fs i:=by
 unfold oth
 rw[cU]
 induction fs with
 |nil=>rfl
 |cons e fs ih=>
  by_cases h:e.1=(k:Nat)
  ·rw[List.filter_cons_of_neg (by simp[h]),ih,mD,if_neg (by rw[h];exact fG hi),fN]
  rw[List.filter_cons_of_pos (by simp[h]),mD,mD,ih]
def aGi (a:Nat->Nat->Rat) (k:Nat) (es:List En):Nat->Nat->Rat:=λr j=>if j=k then Vm.get es (r:Nat) else a r j
structure RepG where
 w:Nat->Rat
 o:Option (Sl EntM×StpM×Option Nat×Nat)
def cBv (n:Nat) (v:IvM) (k:Nat) (es:List En) (a:Nat->Nat->Rat) (F B:Nat) (g:RepG):OutF:=match g.o with
 |none=>⟨.c (iC 6),ivB none n v,ivF v,SolA a n (λr=>Vm.get es (r:Nat)) g.w/\g.w k=0⟩
 |some (y,S,A,kk)=>⟨.c (iC 0),ivB none n ⟨upd v.c k y,v.f,A,kk,v.L++[S]⟩,ivF ⟨upd v.c k y,v.f,A,kk,v.L++[S]⟩,(SolA a n (λr=>Vm.get es (r:Nat)) g.w/\g.w k≠0)/\Ek y.l es/\IvOk n v.f (v.L++[S]) (aGi a k es) F B⟩
theorem bXv (A:Option Addr) (c n:Nat) (Z:Nat->RatM) {qs:List Rat} {B:Nat} (h:Rl (mC Z n) qs) (hb:rbL qs B) (hB:B<=4398046511104) (hn:qs.length<=4096):Ctr Tryz.prog aXg [] [.c (.r A n c 3 λj=>((mC Z n).getD j default).C)] [] (λg:Sl EntM=>⟨.c (bR g),[],Ek g.l (fdF qs qs.length)⟩):=by
 have:=bUs ⟨A,c,mC Z n⟩ h hb hB hn
 have e:fZ ⟨A,c,mC Z n⟩= .r A n c 3 λj=>((mC Z n).getD j default).C:=by
  unfold fZ Sl.R
  rw[show(mC Z n).length=n by unfold mC;simp]
 rwa [e] at this
theorem bGj {T c:Nat} {A:Option Nat} {G:List EntM}:FrC ⟨T,4,1,λ_=>A,λ_=>c,λ_=>ecs G⟩ (.h A G.length c) (bR ⟨A.map λb=>⟨b,0,none⟩,c,G⟩):=⟨0,G.length,λk=>(G.getD k default).C,bL,rfl,rfl,(fU G).symm,λk hk=>pV G k hk⟩
abbrev rpB (n:Nat) (v:IvM) (k:Nat) (q:RatM) (G:List EntM):BL:=ivB none n v++[(62,3,[]),(146,0,iC k::(q.C++[.s 4 G.length])),(82,4,ecs G)]
theorem aMj {n:Nat} {v:IvM} {k:Nat} {q:RatM} {G:List EntM}:scB 5 (rpB n v k q G):=pX (z:=none) bL (aB rfl (aB rfl (aB (cI (fY G)) bJ)))
abbrev rpG (k:Nat) (x ys:Sl EntM) (t:Nat):List (Nat×DV):=[(58,.c (iC t)),(57,.c (iC (ys.l.length:Nat))),(56,.c (bR ys)),(0,.c (.p 0 0)),(1,.c (iC k)),(2,.c (bR x)),(12,.c (.p 3 0))]
abbrev aPu:FuncId:=42
theorem bXw:Ent Tryz.prog aPu:=aV func42 rfl kR
theorem bXx:Tryz.prog.funcs[aPu]? =some Tryz.f42:=func42
theorem bPw (v:IvM) (k:Nat) (x:Sl EntM) {es:List En} {n F B:Nat} {a:Nat->Nat->Rat} (h:IvOk n v.f v.L a F B) (hi:IvB n F B) (hk:k<n) (hx:Ek x.l es) (hv:VOk es (n:Nat)) (hb:rbE es B) (hLn:v.L.length<=4000):CtrF Tryz.prog aPu ivL [.c (.p 0 0),.c (iC k),.c (bR x)] (ivB none n v) (ivF v) (cBv n v k es a F B):=by
 have hle:=kO hv
 have hn:=hi.hn
 have hBB:B<=4398046511104:=by have:=hi.bs;have:=hi.hS;omega
 have hev:Ev x.l es B:=hx.ev hb
 refine gN gT bXw bXx rfl rfl rfl bL (nP (z:=none) (r:=[])) (aA gT mxd ⟨[0,1,1000],qV none n v,rfl,rfl,rfl,λ_ _=>⟨λhh=>?_,λ_=>aA gT mxd ?_⟩⟩)
 ·replace hh:(k:Int)<0\/(n:Int)<=(k:Nat):=hh
  omega
 refine⟨[],aIi x n hev hBB,rfl,rfl,rfl,λ_ _=>⟨λhh=>absurd hv hh,λ_=>aA gT mxd ?_⟩⟩
 refine⟨[],bUu x n hev hb hi.b1 hBB hv hn oM,rfl,rfl,rfl,λgd hgd=>?_⟩
 replace hgd:Rl gd.l (dnL es n):=hgd
 have hgl:gd.l.length=n:=hgd.ln.trans xH
 refine⟨[0,1,1000],bAs v gd (bv:=λr=>Vm.get es (r:Nat)) h hi hgl (λr hr=>⟨?_,nS hv.1 hb hi.b1⟩) oM,rfl,rfl,rfl,λ⟨Z,w⟩ ⟨hS,hZ⟩=>⟨λhh=>absurd rfl hh,λ_=>aA gT mxd ?_⟩⟩
 ·have:=hgd.e r (by rw[xH];exact hr)
  rw[aFq hr] at this
  exact this
 replace hS:SolA a n (λr=>Vm.get es (r:Nat)) w:=hS
 replace hZ:∀i,i<n->Cr (Z i) (w i)/\rb (w i) (sB B n):=hZ
 have hsb:=hi.hS
 refine⟨k,⟨rfl,hk,jX hk⟩,_,nU hk,[],kM (Z k) ((hZ k hk).1.rq ((hZ k hk).2.le oM)),rfl,rfl,rfl,λ_ _=>⟨λh0=>aA gT mxd ⟨⟨w,none⟩,⟨hS,cK.1 (eY.1 h0)⟩,fC rfl ⟨rfl,rfl⟩ ⟨rfl,trivial⟩ bL (pX (z:=none) (r:=[]) bL bJ) rfl (nP (z:=none) (r:=[]))⟩,λh0=>aA gT mxd ?_⟩⟩
 have hw0:w k≠0:=λe=>h0 (by rw[e];rfl)
 obtain⟨qs,hqs⟩:∃qs:List Rat,qs=(List.range n).map w:=⟨_,rfl⟩
 have hql:qs.length=n:=by rw[hqs];simp
 have hqa:∀i,i<n->qs.getD i 0=w i:=λi hi=>by rw[hqs];simp[hi]
 have hZa:∀i,i<n->(mC Z n).getD i default=Z i:=λi hi=>by unfold mC;simp[hi]
 have hRl:Rl (mC Z n) qs:=⟨by rw[hql];unfold mC;simp,λi hi=>by rw[hql] at hi;rw[hqa i hi,hZa i hi];exact(hZ i hi).1⟩
 have hqb:rbL qs (sB B n):=λq hq=>by
  rw[hqs] at hq
  obtain⟨i,hi,rfl⟩:=bT.1 hq
  exact(hZ i (cV.1 hi)).2
 refine⟨k,⟨rfl,hk,jX hk⟩,_,nU hk,?_⟩
 refine⟨some (λj=>((mC Z n).getD j default).C),⟨⟨bL,bL⟩,show n*3=(rtC n Z).length from (qU (P:=λj=>(Z j).C) (e:=3) λ_ _=>rfl).symm,λj hj=>?_,kP⟩,λA0 c0 _ _=>⟨cm (aR λ_ _=>rfl),[],bXv A0 c0 n Z hRl hqb oM oM,rfl,rfl,rfl,λys hys=>?_⟩⟩
 ·show((mC Z n).getD j default).C=((rtC n Z).drop (j*3)).take 3
  rw[hZa j hj];exact(nU hj).1.symm
 replace hys:Ek ys.l (fdF qs qs.length):=hys
 rw[hql] at hys
 show Sd _ _ _ _ _ _
 refine bHc tSd 3 4 82 4 rfl rfl bL rfl ?_
 obtain⟨fs,hfs⟩:∃fs,fs=fdF qs n:=⟨_,rfl⟩
 rw[<-hfs] at hys
 have hfo:VOk fs (n:Nat):=by rw[hfs];exact(aFu n).1
 have hfl:=hys.ln
 have hfn:=kO hfo
 refine dR (λ_=>true) (λg:Nat×List EntM=>rpG k x ys g.1) (λg=>rpB n v k (Z k) g.2) (λ_=>ivF v) (λg=>g.1<=fs.length/\Ek g.2 (oth fs k g.1)) (λg=>fs.length-g.1) λhM=>⟨cH hM (chg:=λg:Nat×List EntM=>rpG k x ys g.1) (bls:=λg=>rpB n v k (Z k) g.2) (fls:=λ_=>ivF v) (0,[]) ⟨aC _,⟨rfl,λj hj=>absurd hj (aM _)⟩⟩ rfl ⟨rfl,rfl,rfl,rfl,rfl⟩ ⟨rfl,trivial⟩ ⟨rfl,rfl,rfl,rfl,rfl,rfl,rfl⟩ bL aMj rfl,λ⟨t,G⟩ ⟨ht,hG⟩=>aA gT mxd ⟨λh3=>aA gT mxd ?_,λh3=>aA gT mxd ?_⟩⟩
 all_goals
  replace ht:t<=fs.length:=ht
  replace hG:Ek G (oth fs k t):=hG
 ·replace h3:(t:Int)<(ys.l.length:Nat):=h3
  have htl:t<fs.length:=by omega
  have er:=hys.e t htl
  have hGl:=hG.ln
  have hol:=bGh (fs:=fs) (k:=k) (t:=t)
  refine⟨t,⟨rfl,show t<ys.l.length by omega⟩,?_⟩
  refine⟨λh4=>aA gT mxd ?_,λh4=>aA gT mxd ?_⟩
  ·replace h4:(ys.l.getD t default).ix≠(k:Nat):=h4
   have hEm:∀c∈(ys.l.getD t default).C,kE 4 c=false:=λc h=>by
    rcases aW.1 h with rfl|h
    ·rfl
    exact aXp _ c h
   refine⟨⟨rfl,(fU G).symm,?_,?_,λc hc=>(aQ.1 hc).elim (λh=>gI (fY G c h)) λh=>hEm c h⟩,?_⟩
   ·show G.length+1<=maxLen
    simp only[maxLen];omega
   ·show(G.length+1)*64<=_
    omega
   refine⟨cm (aR λ_ _=>rfl),λ_ h=>(by cases h),λc h=>hEm c h,(t+1:Nat),wi,cH hM (chg:=λg:Nat×List EntM=>rpG k x ys g.1) (bls:=λg=>rpB n v k (Z k) g.2) (fls:=λ_=>ivF v) (t+1,G++[ys.l.getD t default]) ⟨⟨htl,?_⟩,show fs.length-(t+1)<fs.length-t by omega⟩ rfl ⟨rfl,rfl,rfl,?_,?_⟩ ⟨rfl,trivial⟩ ⟨rfl,rfl,rfl,rfl,rfl,rfl,rfl⟩ bL aMj rfl⟩
   ·show Ek _ (oth fs k (t+1))
    rw[aIv htl,if_neg (by rw[<-er.1];exact h4)]
    exact aLy hG er.1 er.2
   ·show((146,0,iC k::((Z k).C++[.s 4 (G.length+1)])):TypeId×Nat×List CV)=(146,0,iC k::((Z k).C++[.s 4 (G++[_]).length]))
    rw[aJ];rfl
   exact congrArg (λl:List CV=>((82,4,l):TypeId×Nat×List CV)) (oK G _)
  replace h4:¬((ys.l.getD t default).ix≠(k:Nat)):=h4
  refine⟨(t+1:Nat),wi,cH hM (chg:=λg:Nat×List EntM=>rpG k x ys g.1) (bls:=λg=>rpB n v k (Z k) g.2) (fls:=λ_=>ivF v) (t+1,G) ⟨⟨htl,?_⟩,show fs.length-(t+1)<fs.length-t by omega⟩ rfl ⟨rfl,rfl,rfl,rfl,rfl⟩ ⟨rfl,trivial⟩ ⟨rfl,rfl,rfl,rfl,rfl,rfl,rfl⟩ bL aMj rfl⟩
  show Ek G (oth fs k (t+1))
  rw[aIv htl,if_pos (by rw[<-er.1];exact eO.1 h4)];exact hG
 replace h3:¬(t:Int)<(ys.l.length:Nat):=h3
 obtain rfl:t=fs.length:=by omega
 show Sd _ _ _ _ _ _
 refine vN tSd 4 rfl bL (fY G) bL rfl λA2 c2=>⟨_,sk (aR λ_ _=>rfl),_,rfl,?_⟩
 obtain⟨S,hS2⟩:∃S:StpM,S=⟨k,Z k,⟨A2.map λb=>⟨b,0,none⟩,c2,G⟩⟩:=⟨_,rfl⟩
 refine tE tSd 3 1 (iC k::((Z k).C++[bR ⟨A2.map λb=>⟨b,0,none⟩,c2,G⟩])) rfl rfl rfl rfl (uA (k0:=4) rfl bGj) (aA gT mxd ?_)
 refine⟨.seq ((List.range 9).map λi=>(i,i==8)),by kernel_rfl,[],aFm x hev hb hi.b1 hBB hv.1 (λe he=>(hv.2 e he).2.2) oM,rfl,rfl,rfl,λy hy=>⟨k,⟨rfl,hk,dG hk⟩,_,jN (c:=bR y) (Q:=λj=>bR (upd v.c k y j)) hk (λj _=>?_),?_⟩⟩
 ·by_cases e:j=k
  ·subst e;rw[if_pos rfl,bP]
  rw[if_neg e,bK e]
 have hst:∀c∈S.C,fB c=true:=aPo S
 rw[hS2] at hst
 refine⟨.seq ((List.range 11).map λi=>(i,Nat.ble 7 i)),by kernel_rfl,0,0,⟨rfl,bN 0,rfl,rfl,aIq.symm,?_,?_,hst⟩,λA3 c3=>?_⟩
 ·show v.L.length+1<=maxLen
  simp only[maxLen];omega
 ·show(v.L.length+1)*88<=_
  omega
 refine⟨⟨w,some (y,S,A3,c3)⟩,⟨⟨hS,hw0⟩,hy,?_⟩,bAg ?_ nP⟩
 ·refine h.snoc (s:=⟨k,w k,oth fs k fs.length⟩) (v:=λr=>Vm.get es (r:Nat)) ⟨by rw[hS2],hk,by rw[hS2];exact(hZ k hk).1,(hZ k hk).2,hw0,by rw[hS2];exact hG,bPv hfo,λe he=>(aGh e he).2,λe he=>?_⟩ hk hS hw0 (λr j _ _=>rfl) rfl rfl (λi hin hik=>?_) λr hr=>nS hv.1 hb hi.b1
  ·have:=(aGh e he).1
   rw[hfs] at this
   exact aLn (λi hin=>by rw[hqa i hin];exact(hZ i hin).2) e this
  show Vm.get (oth fs k fs.length) (i:Nat)=w i
  rw[bGi oM,hfs,xG,if_pos ⟨by omega,by omega⟩,bU,hqa i hin]
 show Gt _ _ _ _
 refine Tgt.fsub tGt (fl':=ivF ⟨upd v.c k y,v.f,A3,c3,v.L++[S]⟩) (bAh (bP) (bP) ?_ (Nat.zero_lt_succ 4)) ?_
 ·refine bP.trans ?_
  show aBx v.L++_=aBx (v.L++[S])
  rw[hS2];exact bEo (f:=StpM.C) (d:=default) (L:=v.L) (x:=⟨k,Z k,⟨A2.map λb=>⟨b,0,none⟩,c2,G⟩⟩)
 refine cH (M:=λ_=>true) (base:=[]) (chg:=λ_:Unit=>[(0,.c (iC 0))]) (bls:=λ_=>ivB none n ⟨upd v.c k y,v.f,A3,c3,v.L++[S]⟩) (fls:=λ_=>ivF ⟨upd v.c k y,v.f,A3,c3,v.L++[S]⟩) (λt d ht=>by cases ht) () trivial rfl ⟨?_,rfl⟩ ⟨rfl,trivial⟩ rfl bL (pX (z:=none) (r:=[]) bL bJ) rfl
 show((92,0,.s 1 n::(v.f.C++[CV.h A3 (v.L.length+1) c3])):TypeId×Nat×List CV)=(92,0,.s 1 n::(v.f.C++[CV.h A3 (v.L++[S]).length c3]))
 rw[aJ];rfl
structure RepOk (n k:Nat) (v:IvM) (es:List En) (a:Nat->Nat->Rat) (F B:Nat) (e:Int) (v':IvM) (w:Nat->Rat):Prop where
 sol:SolA a n (λr=>Vm.get es (r:Nat)) w
 res:(e=6/\v'=v/\w k=0)\/(e=0/\w k≠0/\v'.L.length=v.L.length+1/\(∃y:Sl EntM,v'.c=upd v.c k y/\Ek y.l es)/\IvOk n v'.f v'.L (aGi a k es) F B)
theorem bAt (v:IvM) (k:Nat) (x:Sl EntM) {es:List En} {n F B:Nat} {a:Nat->Nat->Rat} (h:IvOk n v.f v.L a F B) (hi:IvB n F B) (hk:k<n) (hx:Ek x.l es) (hv:VOk es (n:Nat)) (hb:rbE es B) (hLn:v.L.length<=4000):CtrF Tryz.prog aPu ivL [.c (.p 0 0),.c (iC k),.c (bR x)] (ivB none n v) (ivF v) (λg:Int×IvM×(Nat->Rat)=>⟨.c (iC g.1),ivB none n g.2.1,ivF g.2.1,RepOk n k v es a F B g.1 g.2.1 g.2.2⟩):=(bPw v k x h hi hk hx hv hb hLn).re λg hg=>by
 obtain⟨w,o⟩:=g
 match o,hg with
 |none,⟨h1,h2⟩=>exact⟨(6,v,w),⟨h1,.inl ⟨rfl,rfl,h2⟩⟩,rfl,rfl,rfl⟩
 |some (y,S,A,kk),⟨⟨h1,h2⟩,h3,h4⟩=>exact⟨(0,⟨upd v.c k y,v.f,A,kk,v.L++[S]⟩,w),⟨h1,.inr ⟨rfl,h2,by simp,⟨y,rfl,h3⟩,h4⟩⟩,rfl,rfl,rfl⟩
def idQ (i:Nat):List Rat:=if i=0 then [1,0] else [0,1]
abbrev idM (i:Nat):List En:=fdF (idQ i) 2
theorem rl2 {p q:RatM} {a b:Rat} (hp:Cr p a) (hq:Cr q b):Rl [p,q] [a,b]:=⟨rfl,λk hk=>by
 match k,hk with
 |0,_=>exact hp
 |1,_=>exact hq⟩
theorem bXy:rb 0 1:=⟨by show len 0<=1;decide,by show len 1<=1;decide⟩
theorem bGk:rb 1 1:=⟨by show len 1<=1;decide,by show len 1<=1;decide⟩
theorem aBy {l:List CV} (h:l.all fB=true):∀c∈l,fB c=true:=aP.1 h
theorem bAu {r1 r2:Sl RatM} {A:Option Addr} {c:Nat} (h1:Rl r1.l (idQ 0)) (h2:Rl r2.l (idQ 1)):Rr ⟨A,c,[r1,r2]⟩ idQ 2 2:=⟨rfl,λi hi=>by
 match i,hi with
 |0,_=>exact⟨h1,rfl⟩
 |1,_=>exact⟨h2,rfl⟩⟩
theorem bAv (i:Nat):rbL (idQ i) 1:=λq hq=>by
 unfold idQ at hq
 split at hq
 ·rcases aW.1 hq with rfl|hq
  ·exact bGk
  rw[aI.1 hq];exact bXy
 rcases aW.1 hq with rfl|hq
 ·exact bXy
 rw[aI.1 hq];exact bGk
abbrev bAw:FuncId:=41
theorem bXz:Ent Tryz.prog bAw:=aV func41 rfl kR
theorem bYa:Tryz.prog.funcs[bAw]? =some Tryz.f41:=func41
theorem bPx:Ctr Tryz.prog bAw [] [] [] (λg:MatM=>⟨.a g.C,[],Mx g idM 2⟩):=by
 refine bE gT bXz bYa rfl rfl rfl bL aT (Sd.sq (aA gT mxd ?_))
 refine Sd.sq (Sd.rg gT (l:=[_,_,_,_,_,_,_,_,_]) [_,_,_,_,_,_] [_,_,_] rfl rfl ?_)
 refine⟨[],pH (z:=1) dC,rfl,rfl,rfl,λq1 h1=>⟨[],aFc,rfl,rfl,rfl,λq2 h2=>⟨[],aFc,rfl,rfl,rfl,λq3 h3=>⟨[],pH (z:=1) dC,rfl,rfl,rfl,λq4 h4=>?_⟩⟩⟩⟩
 show Sdl _ _ _ _ _ _ _
 refine aEf bDk 3 1 (λj=>([q1,q2].getD j default).C) rfl rfl (λj hj=>match j,hj with|0,_=>rfl|1,_=>rfl) rfl bL (aBy rfl) bL λA1 c1 _ _=>⟨cm (aBy rfl),?_⟩
 refine aEf bDk 6 2 (λj=>([q3,q4].getD j default).C) rfl rfl (λj hj=>match j,hj with|0,_=>rfl|1,_=>rfl) rfl bL (aBy rfl) bL λA2 c2 _ _=>⟨λ_ h=>(by cases h),?_⟩
 refine Sdl.go (l:=[_,_,_,_,_,_,_,_,_]) gT ?_
 refine⟨some (λj=>[fZ (([⟨A1,c1,[q1,q2]⟩,⟨A2,c2,[q3,q4]⟩]:List (Sl RatM)).getD j dK)]),⟨⟨bL,bL⟩,rfl,λj hj=>match j,hj with|0,_=>rfl|1,_=>rfl,aBy rfl⟩,λA3 c3 _ _=>⟨λ_ h=>(by cases h),λ_ h=>(by cases h),[],bHo ⟨A3,c3,[⟨A1,c1,[q1,q2]⟩,⟨A2,c2,[q3,q4]⟩]⟩ (bAu (rl2 h1 h2) (rl2 h3 h4)) (λi _=>bAv i) (aF 1) dC dC dC,rfl,rfl,rfl,λg hg=>aA gT mxd ⟨g,hg,aO rfl rfl trivial⟩⟩⟩
theorem bYb (f:Nat->Rat):fA f 2=f 0+f 1:=by show(0:Rat)+f 0+f 1=_;grind
theorem aGj (r j:Nat) (hj:j<2):Vm.get (idM r) (j:Nat)=(idQ r).getD j 0:=by
 rw[xG,if_pos ⟨by omega,by omega⟩,bU]
theorem aPv (r:Nat) (x:Nat->Rat):fA (λj=>enM idM r j*x j) 2=if r=0 then x 0 else x 1:=by
 rw[bYb]
 show Vm.get (idM r) (0:Nat)*x 0+Vm.get (idM r) (1:Nat)*x 1=_
 rw[aGj r 0 dC,aGj r 1 dC]
 unfold idQ
 by_cases e:r=0
 ·rw[if_pos e,if_pos e];show(1:Rat)*_+0*_=_;grind
 rw[if_neg e,if_neg e];show(0:Rat)*_+1*_=_;grind
theorem bGl:¬Ker idM 2:=λ⟨x,⟨i,hi,hx⟩,hk⟩=>hx (by
 have:=hk i hi
 have h2:=aPv i x
 rw[show fA (λj=>enM idM i j*x j) 2=0 from this] at h2
 match i,hi with
 |0,_=>exact h2.symm
 |1,_=>exact h2.symm)
theorem yN:IvB 2 (bd 1 2) 1:=⟨by decide,by decide,by decide,by decide,by decide,by decide⟩
abbrev es1:List En:=[((0:Int),2),((1:Int),1)]
abbrev es2:List En:=[((1:Int),1)]
theorem ek2 {p q:RatM} {a b:Rat} {i j:Int} (hp:Cr p a) (hq:Cr q b):Ek [⟨i,p⟩,⟨j,q⟩] [(i,a),(j,b)]:=⟨rfl,λk hk=>by
 match k,hk with
 |0,_=>exact⟨rfl,hp⟩
 |1,_=>exact⟨rfl,hq⟩⟩
theorem ek1 {p:RatM} {a:Rat} {i:Int} (hp:Cr p a):Ek [⟨i,p⟩] [(i,a)]:=⟨rfl,λk hk=>by
 match k,hk with
 |0,_=>exact⟨rfl,hp⟩⟩
theorem bPy:VOk es1 (2:Nat):=⟨by
 refine qE.2 ⟨λe he=>?_,dT _ _⟩
 rw[aI.1 he];show(0:Int)<1;decide,λe he=>by
 rcases aW.1 he with rfl|he
 ·exact⟨by decide,by decide,show(2:Rat)≠0 by decide⟩
 rw[aI.1 he];exact⟨by decide,by decide,show(1:Rat)≠0 by decide⟩⟩
theorem bPz:VOk es2 (2:Nat):=⟨dT _ _,λe he=>by rw[aI.1 he];exact⟨by decide,by decide,show(1:Rat)≠0 by decide⟩⟩
theorem bAx {q:Rat} (h:q=0\/q=1\/q=2\/q=4\/q=5):rb q 1:=by
 rcases h with rfl|rfl|rfl|rfl|rfl<;>exact⟨by decide,by decide⟩
theorem bQa:rbE es1 1:=λe he=>by
 rcases aW.1 he with rfl|he
 ·exact bAx (.inr (.inr (.inl rfl)))
 rw[aI.1 he];exact bGk
theorem bQb:rbE es2 1:=λe he=>by rw[aI.1 he];exact bGk
theorem bAy (i:Nat):Vm.get es1 (i:Nat)=if i=0 then 2 else if i=1 then 1 else 0:=by
 show Vm.get (((0:Int),(2:Rat))::[((1:Int),1)]) _=_
 rw[mD,mD]
 show _+(_+(0:Rat))=_
 match i with
 |0=>show(2:Rat)+(0+0)=2;grind
 |1=>show(0:Rat)+(1+0)=1;grind
 |i+2=>rw[if_neg (by show ¬(0:Int)=_;omega),if_neg (by show ¬(1:Int)=_;omega),if_neg oM,if_neg oM];grind
theorem bQc (i:Nat):Vm.get es2 (i:Nat)=if i=1 then 1 else 0:=by
 show Vm.get (((1:Int),(1:Rat))::[]) _=_
 rw[mD]
 show _+(0:Rat)=_
 by_cases e:i=1
 ·subst e;show(1:Rat)+0=1;grind
 rw[if_neg (by show ¬(1:Int)=_;omega),if_neg e];grind
theorem cBw {v v1:IvM} {e:Int} {w:Nat->Rat} (h:RepOk 2 0 v es1 (enM idM) (bd 1 2) 1 e v1 w):e=0/\v1.L.length=v.L.length+1/\IvOk 2 v1.f v1.L (aGi (enM idM) 0 es1) (bd 1 2) 1:=by
 rcases h.res with ⟨_,_,h0⟩|⟨h1,_,h2,_,h3⟩
 ·have:=h.sol.eq 0 dC
  rw[aPv,if_pos rfl,h0,bAy] at this
  exact absurd this.symm dC
 exact⟨h1,h2,h3⟩
theorem aGk (r:Nat) (hr:r<2) (x:Nat->Rat):fA (λj=>aGi (enM idM) 0 es1 r j*x j) 2=if r=0 then 2*x 0 else x 0+x 1:=by
 rw[bYb]
 have h1:aGi (enM idM) 0 es1 r 0=Vm.get es1 (r:Nat):=if_pos rfl
 have h2:aGi (enM idM) 0 es1 r 1=Vm.get (idM r) (1:Nat):=if_neg dC
 rw[h1,h2,bAy,aGj r 1 dC]
 match r,hr with
 |0,_=>show(2:Rat)*x 0+0*x 1=2*x 0;grind
 |1,_=>show(1:Rat)*x 0+1*x 1=x 0+x 1;grind
theorem cBx {v v1:IvM} {e:Int} {w:Nat->Rat} (h:RepOk 2 0 v es2 (aGi (enM idM) 0 es1) (bd 1 2) 1 e v1 w):e=6/\v1=v:=by
 have:=h.sol.eq 0 dC
 rw[aGk 0 dC,if_pos rfl,bQc] at this
 have h0:w 0=0:=by
  have h2:(2:Rat)*w 0=0:=this
  rcases pB.1 h2 with h3|h3
  ·exact absurd h3 dC
  exact h3
 rcases h.res with ⟨h1,h2,_⟩|⟨_,h1,_⟩
 ·exact⟨h1,h2⟩
 exact absurd h0 h1
theorem cBy {z:Nat->Rat} {Z:Nat->RatM} (h:SolA (aGi (enM idM) 0 es1) 2 (λk=>if k=0 then 4 else 5) z) (hZ:∀i,i<2->Cr (Z i) (z i)):Rl (mC Z 2) [2,3]:=by
 have e0:=h.eq 0 dC
 have e1:=h.eq 1 dC
 rw[aGk 0 dC,if_pos rfl] at e0
 rw[aGk 1 dC,if_neg dC] at e1
 have z0:z 0=2:=by
  have h2:(2:Rat)*z 0=4:=e0
  have h3:(2:Rat)*(z 0-2)=0:=by grind
  rcases pB.1 h3 with h4|h4
  ·exact absurd h4 dC
  grind
 have z1:z 1=3:=by
  have h2:z 0+z 1=5:=e1
  rw[z0] at h2;grind
 refine⟨rfl,λk hk=>?_⟩
 match k,hk with
 |0,_=>have:=hZ 0 dC;rw[z0] at this;exact this
 |1,_=>have:=hZ 1 dC;rw[z1] at this;exact this
abbrev aPw:FuncId:=9
theorem bYc:Ent Tryz.prog aPw:=aV func9 rfl kR
theorem bYd:Tryz.prog.funcs[aPw]? =some Tryz.f9:=func9
theorem bQd:Ctr Tryz.prog aPw [] [] [] (λ_:Unit=>⟨pC True,[],True⟩):=by
 refine bE gT bYc bYd rfl rfl rfl bL aT (aA gT mxd ⟨[],bPx,rfl,rfl,rfl,λm hm=>?_⟩)
 replace hm:Mx m idM 2:=hm
 have hbM:rbM idM 2 1:=λi _=>aLn λj hj=>bAv i _ (by
  refine gD0 ?_
  unfold idQ;split<;>exact hj)
 refine⟨[],bAi m (hm.mr hbM) hbM (aF 1) dC dC,rfl,rfl,rfl,λg hg=>?_⟩
 match g,hg with
 |none,hg=>exact absurd hg bGl
 |some (c,f,rw,cl,Lw,Up),⟨hg,hc⟩=>
  replace hc:∀j,j<2->Ek (c j).l (trM idM 2 j):=hc
  have hI:IvOk 2 f [] (enM idM) (bd 1 2) 1:=IvOk.new hg hbM (λr _=>xF 2) (aF 1)
  refine⟨λhh=>absurd rfl hh,λ_=>aA gT mxd ?_⟩
  refine⟨[],pH (z:=2) dC,rfl,rfl,rfl,λq1 h1=>⟨[],pH (z:=1) dC,rfl,rfl,rfl,λq2 h2=>?_⟩⟩
  refine⟨some (λj=>(([⟨0,q1⟩,⟨1,q2⟩]:List EntM).getD j default).C),⟨⟨bL,bL⟩,rfl,λj hj=>match j,hj with|0,_=>rfl|1,_=>rfl,aBy rfl⟩,λA3 c3 _ _=>⟨cm (aR λ_ _=>rfl),?_⟩⟩
  refine⟨[0,1,1000],bAt ⟨c,f,none,0,[]⟩ 0 ⟨A3,c3,[⟨0,q1⟩,⟨1,q2⟩]⟩ (es:=es1) hI yN dC (ek2 h1 h2) bPy bQa (aC _),rfl,rfl,rfl,λ⟨e,v1,w⟩ hr=>?_⟩
  replace hr:RepOk 2 0 ⟨c,f,none,0,[]⟩ es1 (enM idM) (bd 1 2) 1 e v1 w:=hr
  obtain⟨he,hl1,hI1⟩:=cBw hr
  refine⟨[],pH (z:=4) dC,rfl,rfl,rfl,λq4 h4=>⟨[],pH (z:=5) dC,rfl,rfl,rfl,λq5 h5=>?_⟩⟩
  have hl1':v1.L.length=1:=hl1
  refine⟨some (λj=>(([q4,q5]:List RatM).getD j default).C),⟨⟨bL,bL⟩,rfl,λj hj=>match j,hj with|0,_=>rfl|1,_=>rfl,aBy rfl⟩,λA4 c4 _ _=>⟨cm (aR λ_ _=>rfl),λ_ h=>(by cases h),?_⟩⟩
  refine⟨[0,1,1000],bAs v1 ⟨A4,c4,[q4,q5]⟩ (bv:=λk=>if k=0 then 4 else 5) hI1 yN rfl (λk hk=>?_) oM,rfl,rfl,rfl,λ⟨Z,z⟩ ⟨hz,hZ⟩=>?_⟩
  ·match k,hk with
   |0,_=>exact⟨h4,bAx dC⟩
   |1,_=>exact⟨h5,bAx dC⟩
  refine⟨[],pH (z:=1) dC,rfl,rfl,rfl,λq6 h6=>?_⟩
  refine⟨some (λj=>(([⟨1,q6⟩]:List EntM).getD j default).C),⟨⟨bL,bL⟩,rfl,λj hj=>match j,hj with|0,_=>rfl,aBy rfl⟩,λA5 c5 _ _=>⟨cm (aR λ_ _=>rfl),λ_ h=>(by cases h),λ_ h=>(by cases h),cm kP,?_⟩⟩
  refine⟨[0,1,1000],bAt v1 0 ⟨A5,c5,[⟨1,q6⟩]⟩ (es:=es2) hI1 yN dC (ek1 h6) bPz bQb oM,rfl,rfl,rfl,λ⟨e2,v2,w2⟩ hr2=>?_⟩
  replace hr2:RepOk 2 0 v1 es2 (aGi (enM idM) 0 es1) (bd 1 2) 1 e2 v2 w2:=hr2
  obtain⟨he2,hv2⟩:=cBx hr2
  refine⟨λ_=>⟨[0,1,1000],qV none 2 v2,rfl,rfl,rfl,λ_ _=>⟨λ_=>⟨[0,1,1000],aIr none 2 v2,rfl,rfl,rfl,λ_ _=>⟨λ_=>⟨[],pH (z:=2) dC,rfl,rfl,rfl,λq7 h7=>⟨[],pH (z:=3) dC,rfl,rfl,rfl,λq8 h8=>?_⟩⟩,λh=>?_⟩⟩,λh=>?_⟩⟩,λh=>?_⟩
  ·refine⟨some (λj=>((mC Z 2).getD j default).C),⟨⟨bL,bL⟩,rfl,λj hj=>match j,hj with|0,_=>rfl|1,_=>rfl,kP⟩,λA6 c6 _ _=>⟨cm (aR λ_ _=>rfl),λ_ h=>(by cases h),λ_ h=>(by cases h),λ_ h=>(by cases h),cm (aBy rfl),?_⟩⟩
   refine⟨some (λj=>(([q7,q8]:List RatM).getD j default).C),⟨⟨bL,bL⟩,rfl,λj hj=>match j,hj with|0,_=>rfl|1,_=>rfl,aBy rfl⟩,λA7 c7 _ _=>⟨cm (aR λ_ _=>rfl),λ_ h=>(by cases h),λ_ h=>(by cases h),λ_ h=>(by cases h),λ_ h=>(by cases h),?_⟩⟩
   refine⟨[],bEp ⟨A6,c6,mC Z 2⟩ ⟨A7,c7,[q7,q8]⟩ (qs:=[2,3]) (cBy hz λi hi=>(hZ i hi).1) (rl2 h7 h8) (λq hq=>?_) dC,rfl,rfl,rfl,λ_ _=>⟨(),trivial,jW ?_ trivial bL bJ rfl wW⟩⟩
   ·rcases aW.1 hq with rfl|hq
    ·exact⟨by decide,by decide⟩
    rw[aI.1 hq];exact⟨by decide,by decide⟩
   exact oC
  ·exact absurd (show((v2.L.length:Nat):Int)=1 by rw[hv2,hl1'];rfl) h
  ·exact absurd rfl h
  exact absurd ⟨⟨he,rfl⟩,he2⟩ h
theorem aMk:Ctr Tryz.prog aPw [] [] [] (λ_:Unit=>⟨.c (.v (.bool true)),[],True⟩):=CtrF.lo bQd λ_ _=>⟨(),trivial,λρ n w v h=>h.tt trivial,rfl,rfl⟩
theorem LuOk.nk {M:Nat->List En} {n:Nat} {rw cl:Nat->Nat} {Lw Up:Nat->List En} (h:LuOk M n rw cl Lw Up):¬Ker M n:=by
 obtain⟨lo,us,p,hP⟩:=h.parts
 obtain⟨xv,hx⟩:=aZx h.clt h.cinj (bwd us p n (fwd lo (λ_=>0) n) n)
 have hS:Sol M n (λ_=>0) xv:=h.sol (b:=λ_=>0) hP hx
 have h0:=(hS λ_=>0).1 λk _=>mU λj _=>eE _
 rintro⟨x,⟨i,hi,hxi⟩,hz⟩
 exact hxi (((hS x).1 hz i hi).trans (h0 i hi).symm)
theorem bQe (m:MatM) {M:Nat->List En} {B:Nat} (h:Mg m M B) (hB:B<=4398046511104) (hn:m.d.l.length<=4611686018427387904) (hx:¬(MOk m M/\m.r=m.c)):Ctr Tryz.prog aPm [] [.a m.C] [] (λe:Int=>⟨.t [.a luZ,.c (iC e)],[],FeR m M e/\e≠0⟩):=by
 refine bE gT bHv bHw rfl rfl rfl bL aT (aA gT mxd ⟨[],aXi _ h hB hn,rfl,rfl,rfl,λ_ _=>⟨λh2=>aA gT mxd ?_,λh2=>aA gT mxd ⟨λh3=>aA gT mxd ?_,λh3=>?_⟩⟩⟩)
 ·exact⟨1,⟨⟨λ_=>rfl,λhh=>absurd hh h2,λ_ hh=>absurd hh h2⟩,by decide⟩,aO ⟨rfl,rfl⟩ rfl trivial⟩
 ·replace h3:m.r≠m.c:=h3
  have hv:MOk m M:=eO.1 h2
  exact⟨4,⟨⟨λhh=>absurd hv hh,λ_ _=>rfl,λn _ e1 e2=>absurd (e1.trans e2.symm) h3⟩,by decide⟩,aO ⟨rfl,rfl⟩ rfl trivial⟩
 replace h3:¬m.r≠m.c:=h3
 exact absurd ⟨eO.1 h2,eO.1 h3⟩ hx
def cBz (m:MatM) (M:Nat->List En) (n:Nat):Int ⊕ ((Nat->Sl EntM)×LuM)->OutF
 |.inl e=>⟨.t [.c (.v (.pointer none)),.c (iC e)],[],[],FeR m M e/\e≠0⟩
 |.inr (c,f)=>⟨.t [.c (.p 0 0),.c (iC 0)],ivB none n ⟨c,f,none,0,[]⟩,ivF ⟨c,f,none,0,[]⟩,(FeR m M 0/\MOk m M/\m.r=(n:Nat)/\m.c=(n:Nat))/\∀j,j<n->Ek (c j).l (trM M n j)⟩
theorem bQf (m:MatM) {M:Nat->List En} {n B:Nat} (hn:m.d.l.length=n) (h:Mg m M B) (hb:rbM M n B) (h1:1<=B) (hB:bd B (n-1)<=4398046511104) (hn2:n<=12):CtrF Tryz.prog aPt ivL [.a m.C] [] [] (cBz m M n):=by
 have hBB:B<=4398046511104:=aH (oO (aC (n-1))) hB
 by_cases hx:MOk m M/\m.r=m.c
 ·obtain⟨hv,he⟩:=hx
  have hr:m.r=(n:Nat):=by have:=hv.2.2.1;omega
  have hc:m.c=(n:Nat):=by omega
  refine(bAi m (Mr.mok' h hv hr hc) hb h1 hB hn2).re λg hg=>?_
  match g,hg with
  |none,hg=>exact⟨.inl 6,⟨⟨⟨λhh=>absurd hv hh,λ_ hh=>absurd he hh,λn' _ e1 _=>by
   obtain rfl:n'=n:=by omega
   exact⟨λ_=>rfl,λhh=>absurd hg hh⟩⟩,by decide⟩,rfl,rfl,rfl⟩⟩
  |some (c,f,rw,cl,Lw,Up),⟨hL,hc'⟩=>exact⟨.inr (c,f),⟨⟨⟨⟨λhh=>absurd hv hh,λ_ hh=>absurd he hh,λn' _ e1 _=>by
   obtain rfl:n'=n:=by omega
   exact⟨λhh=>absurd hh hL.o.nk,λ_=>rfl⟩⟩,hv,hr,hc⟩,hc'⟩,rfl,rfl,rfl⟩⟩
 exact gN gT bHy bHz rfl rfl rfl bL (λi T es l hi=>by cases hi) (aA gT mxd ⟨[],bQe m h hBB oM hx,rfl,rfl,rfl,λe he=>⟨λ_=>aA gT mxd ⟨.inl e,he,fC ⟨rfl,rfl⟩ trivial trivial bL bJ rfl (λi T es l hi=>by cases hi)⟩,λhh=>absurd (show e≠0 from he.2) hh⟩⟩)
abbrev bAz:FuncId:=11
theorem bYe:Ent Tryz.prog bAz:=aV func11 rfl kR
theorem bYf:Tryz.prog.funcs[bAz]? =some Tryz.f11:=func11
def cCa (m:MatM) (M:Nat->List En) (n:Nat):Int ⊕ MatM->Out
 |.inl e=>⟨.t [.a [iC 0,iC 0,.v (.slice none 0 0),iC 0],.c (iC e)],[],FeR m M e/\e≠0⟩
 |.inr g=>⟨.t [.a (g.C++[iC 0]),.c (iC 0)],[],FeR m M 0/\(MOk m M->m.r=(n:Nat)->m.c=(n:Nat)->Mx g M n)⟩
theorem bBa (m:MatM) {M:Nat->List En} {n B:Nat} (hn:m.d.l.length=n) (h:Mg m M B) (hb:rbM M n B) (h1:1<=B) (hB:bd B (n-1)<=4398046511104) (hn2:n<=12) (hl:∀i,i<n->(M i).length<=4611686018427387904):Ctr Tryz.prog bAz [] [.a m.C] [] (cCa m M n):=by
 have hBB:B<=4398046511104:=aH (oO (aC (n-1))) hB
 refine bE gT bYe bYf rfl rfl rfl bL aT (aA gT mxd ⟨[],bXu m h (by rw[hn];exact hb) h1 (by rw[hn];exact hB) oM (by rw[hn];exact hl),rfl,rfl,rfl,λe he=>?_⟩)
 replace he:FeR m M e:=he
 refine⟨λh2=>aA gT mxd ⟨.inl e,⟨he,h2⟩,aO ⟨rfl,rfl⟩ rfl trivial⟩,λh2=>aA gT mxd ?_⟩
 have h2':e=0:=eO.1 h2
 have hv:MOk m M:=bA λhh=>by have:=he.bad hh;omega
 have hrc:m.r=m.c:=bA λhh=>by have:=he.shp hv hh;omega
 have hr:m.r=(n:Nat):=by have:=hv.2.2.1;omega
 have hc:m.c=(n:Nat):=by omega
 refine⟨[],bVv m (Mr.mok' h hv hr hc) hb h1 hBB oM oM,rfl,rfl,rfl,λg hg=>⟨.inr g,⟨by rw[<-h2'];exact he,λ_ _ _=>hg⟩,aO ⟨rfl,rfl⟩ rfl trivial⟩⟩
theorem Mx.cong {g:MatM} {M M':Nat->List En} {n:Nat} (h:Mx g M n) (he:∀i,i<n->M i=M' i):Mx g M' n:=⟨h.r,h.c,h.ln,λi hi=>by rw[<-he i hi];exact h.row i hi,λi hi=>by rw[<-he i hi];exact h.ok i hi⟩
theorem aPx {es:List En} {n:Nat} (h:VOk es (n:Nat)) {i:Int} (hi:¬(0<=i/\i<n)):Vm.get es i=0:=lS λe he h2=>hi (by have:=h.2 e he;omega)
theorem aGl {M:Nat->List En} {n:Nat} (j:Nat):VOk (trM M n j) (n:Nat):=(aFu n).1
theorem bGm {M:Nat->List En} {n i:Nat} (h:VOk (M i) (n:Nat)) (hi:i<n):trM (trM M n) n i=M i:=by
 refine rO _ _ (aGl i).1 h.1 (λe he=>((aGl i).2 e he).2.2) (λe he=>(h.2 e he).2.2) λz=>?_
 by_cases hz:0<=z/\z<n
 ·obtain⟨j,rfl⟩:∃j:Nat,z=(j:Nat):=⟨z.toNat,by omega⟩
  rw[aOt oM,aOt hi]
 rw[aPx (aGl i) hz,aPx h hz]
theorem FeR.uniq {m:MatM} {M:Nat->List En} {e e':Int} (h:FeR m M e) (h':FeR m M e'):e=e':=by
 by_cases hv:MOk m M
 ·by_cases hs:m.r=m.c
  ·have hr:m.r=(m.d.l.length:Nat):=hv.2.2.1.symm
   have a:=h.sq m.d.l.length hv hr (hs▸hr)
   have a':=h'.sq m.d.l.length hv hr (hs▸hr)
   by_cases hk:Ker M m.d.l.length
   ·exact(a.1 hk).trans (a'.1 hk).symm
   exact(a.2 hk).trans (a'.2 hk).symm
  exact(h.shp hv hs).trans (h'.shp hv hs).symm
 exact(h.bad hv).trans (h'.bad hv).symm
def lnT:List Nat->Tr->Tr
 |[],t=>t
 |i::l,t=> .alt i (lnT l t) .nil
def oLn:Ord:=.treeH [] (lnT [0,2001,2002,2003,2004,2005,2006,2007,2008,2009,2010,2011,2012,2013,2014,2015,2016,2017,2019] (.alt 18 (trS [20,21,2022,2023,24,2025,2026,2027,2028,2029]) (.alt 20 (trS [18,21,2022,2023,24,2025,2026,2027,2028,2029]) .nil)))
abbrev aPy:FuncId:=3
theorem bYg:Ent Tryz.prog aPy:=aV func3 rfl kR
theorem bYh:Tryz.prog.funcs[aPy]? =some Tryz.f3:=func3
theorem bQg (m:MatM) {M:Nat->List En} {n B:Nat} (hn:m.d.l.length=n) (h:Mg m M B) (hb:rbM M n B) (h1:1<=B) (hB:bd B 11<=4398046511104) (hl:∀i,i<n->(M i).length<=4611686018427387904):Ctr Tryz.prog aPy [] [.a m.C] [] (λ_:Unit=>⟨pC True,[],True⟩):=by
 refine bE gT bYg bYh rfl rfl rfl bL aT (Sd.sq (aA gT mxd ?_))
 show Sd _ _ _ _ _ _
 refine Sd.sq (aA gT mxd ⟨λh2=>aA gT mxd ⟨[],aMk,rfl,rfl,rfl,λ_ _=>⟨(),trivial,aO (tt trivial) rfl trivial⟩⟩,λh2=>aA gT mxd ?_⟩)
 replace h2:¬((12:Int)<(m.d.l.length:Nat)\/12<m.c):=h2
 have hn2:n<=12:=by omega
 have hB':bd B (n-1)<=4398046511104:=aH (oO oM) hB
 show Sd _ _ _ _ _ _
 refine Sd.sq (aA gT mxd ⟨[],bQf m hn h hb h1 hB' hn2,rfl,rfl,rfl,λg hg=>?_⟩)
 match g,hg with
 |.inl e,⟨he,he0⟩=>
  show Sd _ _ _ _ _ _
  refine aA gT mxd ⟨[],bBa m hn h hb h1 hB' hn2 hl,rfl,rfl,rfl,λg hg=>?_⟩
  match g,hg with
  |.inl e',⟨he',he0'⟩=>
   obtain rfl:e=e':=he.uniq he'
   refine⟨oLn,by kernel_rfl,[],aMk,rfl,rfl,rfl,λ_ _=>⟨λh3=>⟨?_,?_⟩,λh3=>absurd ⟨rfl,⟨λh=>(by cases h),λh=>absurd h he0⟩⟩ h3⟩⟩
   all_goals exact⟨(),trivial,aO (tt trivial) rfl trivial⟩
  |.inr _,⟨he',_⟩=>exact absurd (he.uniq he') he0
 |.inr (c,f),⟨⟨he,hv,hr,hc⟩,hcc⟩=>
  show Sd _ _ _ _ _ _
  have hM:Mr m M n n B:=Mr.mok' h hv hr hc
  have hBB:B<=4398046511104:=aH (oO (aC (n-1))) hB'
  have htb:rbM (trM M n) n B:=λj hj=>bNg h1 hb λi hi=>(hM.ok i hi).1.1
  refine vN tSd 2 rfl bL (aR λ_ _=>rfl) bL rfl λA3 c3=>?_
  refine tE tSd 1 1 (oL ⟨A3.map λb=>⟨b,0,none⟩,c3,jE c n⟩::(f.C++[.h none 0 0])) rfl rfl rfl rfl (uA (k0:=0) rfl xJ) (aA gT mxd ⟨[],bBa m hn h hb h1 hB' hn2 hl,rfl,rfl,rfl,λg hg=>?_⟩)
  match g,hg with
  |.inl e',⟨he',he0'⟩=>exact absurd (he'.uniq he) he0'
  |.inr g2,⟨_,hg2⟩=>
   replace hg2:Mx g2 M n:=hg2 hv hr hc
   have hmt:∀g:MatM,Mx g (trM (trM M n) n) n->Mx g M n:=λg hg=>hg.cong λi hi=>bGm (hM.ok i hi).1 hi
   have hbM':rbM M n 13194139533312:=λi hi e he=>(hb i hi e he).le oM
   refine⟨oLn,by kernel_rfl,[],aMk,rfl,rfl,rfl,λ_ _=>⟨λh3=>⟨?_,?_⟩,λh3=>absurd ⟨rfl,⟨λ_=>rfl,λ_=>rfl⟩⟩ h3⟩⟩
   all_goals
    refine⟨[1,2,1000],bPl (A3.map λb=>⟨b,0,none⟩) c3 ⟨c,f,none,0,[]⟩ hcc (λj _=>aGl j) htb hBB oM,rfl,rfl,rfl,λg1 hg1=>⟨[],bNy g1 g2 (hmt g1 hg1) hg2 hbM' oM oM,rfl,rfl,rfl,λ_ _=>⟨λ_=>⟨[1,2,1000],aIr (some (A3.map λb=>⟨b,0,none⟩,c3)) n ⟨c,f,none,0,[]⟩,rfl,rfl,rfl,λ_ _=>?_⟩,λh4=>absurd trivial h4⟩⟩⟩
    exact⟨(),trivial,jW ⟨λ_=>trivial,λ_=>rfl⟩ trivial bL bJ rfl wW⟩
end Go.Proofs.YtghncoghdcmdfaaGreat
namespace Go.Proofs.YtghncoghdcmdfaaGreat
open Go.Vg Go.RowKit _root_.Go.Proofs.Tryz
open Go.Vm
open Go.Vy hiding val
open Go.ChangeShapes Go.WideShapes
namespace bulks
theorem bQh {H:Type} (d:DataW H):1<=Rows.uptoBulk d:=by
 cases d with
 |lit l=>cases l<;>simp[Rows.uptoBulk]
 |nil=>simp[Rows.uptoBulk]
 |ptr d=>simp[Rows.uptoBulk]
 |slice elems spare=>simp[Rows.uptoBulk]
 |agg parts=>simp[Rows.uptoBulk]
 |iface t d=>simp[Rows.uptoBulk]
 |map entries=>simp[Rows.uptoBulk]
 |held h=>simp[Rows.uptoBulk]
theorem part_le {H:Type} {d:DataW H} {l:List (DataW H)} (h:d∈l):Rows.uptoBulk d<=Rows.uptoBulkAll l:=by
 induction l with
 |nil=>cases h
 |cons x r ih=>
  simp only[Rows.uptoBulkAll]
  cases aW.1 h with
  |inl e=>subst e;omega
  |inr e=>have:=ih e;omega
theorem length_le {H:Type} (l:List (DataW H)):l.length<=Rows.uptoBulkAll l:=by
 induction l with
 |nil=>simp[Rows.uptoBulkAll]
 |cons x r ih=>have:=bQh x;simp only[Rows.uptoBulkAll,dD];omega
end bulks
def ρA:Pl:=⟨λ_=>(none,0),λ_=>True,[]⟩
section
variable {H:Type} {enc:TypeId×Value->H} {w:World} {base:Nat} {spare:Nat->Bool} {held:Bool}
theorem zA {b:Nat} (h:b<w.heap.size):Zf ρA 0 w b:=⟨h,λi hi=>absurd hi (aM _),trivial,λ⟨F,hF,_⟩=>by cases hF⟩
def Opn (H:Type) (enc:TypeId×Value->H) (w:World) (base:Nat) (spare:Nat->Bool) (held:Bool) (T:TypeId) {α:Type} (C:α->List CV) (B:Nat->α->Prop):Prop:=
 ∀fuel cs x,DataW.trod enc Tryz.prog w base spare held fuel T cs=some x->∃a:α,(Hl ρA 0 w (C a) cs/\∀u∈cs,u.oneCell'=true)/\B (Rows.uptoBulk x.1) a
theorem aGm:Opn H enc w base spare held 3 (λz:Int=>[iC z]) λ_ _=>True:=λfuel cs x h=>by
 obtain⟨n,rfl,_,_⟩:=DataW.trod_int underlying3 h
 exact⟨n,⟨⟨Rc.v _,trivial⟩,λu hu=>by rw[aI.1 hu];rfl⟩,trivial⟩
theorem bBb:Opn H enc w base spare held 4 (λb:Bool=>[.b (b=true) inferInstance]) λ_ _=>True:=λfuel cs x h=>by
 obtain⟨b,rfl,_⟩:=DataW.trod_bool underlying4 h
 have h1:Rc (Zf ρA 0 w) w (.b (b=true) inferInstance) (.bool (decide (b=true))):=Rc.b _ _
 have h2:decide (b=true)=b:=by cases b<;>rfl
 rw[h2] at h1
 exact⟨b,⟨⟨h1,trivial⟩,λu hu=>by rw[aI.1 hu];rfl⟩,trivial⟩
theorem bIa {α:Type} {f:Nat->α} {n j:Nat} {d:α} (h:j<n):((List.range n).map f).getD j d=f j:=by simp[List.getD,h]
theorem aMl {T E e:Nat} {α:Type} {C:α->List CV} {B:Nat->α->Prop} (hT:Tryz.prog.underlying T=some (.slice E)) (hE:Tryz.prog.cellsOf E=e) (he:0<e) (hC:∀a,(C a).length=e) (hcl:∀a,∀c∈C a,fB c=true) (d:α) (hO:Opn H enc w base spare held E C B) (hB:∀m n a,m<=n->B m a->B n a):
 Opn H enc w base spare held T (λs:Sl α=>[s.R e C d]) λn s=>s.l.length<=n/\∀x∈s.l,B n x:=λfuel cs x h=>by
 rcases Go.Deep.open_slice hT h with ⟨rfl,rfl⟩|⟨a,len,cap,m,n,D,Pl,rfl,hb,hl,hm,hmm,rfl,hx⟩
 ·exact⟨dK,⟨⟨Rc.nil _ _ _ _ (aC _),trivial⟩,λu hu=>by rw[aI.1 hu];rfl⟩,aC _,λ_ h=>nomatch h⟩
 rw[hE] at hx
 have hlm:len<=m:=by rw[hmm];split<;>omega
 have each:∀i,i<len->∃q:α×List Value,w.cells? base (a.add (i*e)) e=some q.2/\(Hl ρA 0 w (C q.1) q.2/\∀u∈q.2,u.oneCell'=true)/\B (Rows.uptoBulk (D i)) q.1:=λi hi=>by
  obtain⟨cs',h1,h2⟩:=hx i (by omega)
  obtain⟨y,h3,h4⟩:=hO _ _ _ h2
  exact⟨(y,cs'),h1,h3,h4⟩
 have hlb:len<=Rows.uptoBulkAll ((List.range len).map D):=by
  have:=bulks.length_le ((List.range len).map D)
  rwa [aU,gU] at this
 by_cases h0:len=0
 ·subst h0
  exact⟨⟨some a,cap,[]⟩,⟨⟨Rc.nil _ _ _ _ hm,trivial⟩,λu hu=>by rw[aI.1 hu];rfl⟩,aC _,λ_ h=>nomatch h⟩
 haveI:Inhabited (α×List Value):=⟨(d,[])⟩
 obtain⟨q,hq⟩:=Go.Deep.choose_lt each
 have cell:∀i,i<len->∀j (u:Value),((q i).2)[j]? =some u->w.cell? (a.add (i*e+j))=some u:=λi hi j u hu=>by
  obtain⟨_,h2,h3⟩:=World.cells?_some (hq i hi).1
  have h4:=h3 j (by rw[<-h2];exact cZ hu)
  rw[Go.Deep.add_add,hu] at h4
  exact h4
 have l0:0<((q 0).2).length:=by rw[<-(hq 0 (by omega)).2.1.1.len,hC];exact he
 have c0:=cell 0 (by omega) 0 _ (aE l0)
 obtain⟨b,o,spot⟩:=a
 have hspot:spot=none:=by simpa[Addr.add] using World.cell?_spot c0
 subst hspot
 have hlt:b<w.heap.size:=by
  rw[eX] at c0
  unfold World.cell? at c0
  cases hh:w.heap[b]? with
  |none=>rw[show((⟨b,o+(0*e+0),none⟩:Addr).block)=b from rfl,hh] at c0;cases c0
  |some ob=>exact(iL.1 hh).1
 refine⟨⟨some ⟨b,o,none⟩,cap,(List.range len).map λi=>(q i).1⟩,⟨⟨?_,trivial⟩,λu hu=>by rw[aI.1 hu];rfl⟩,?_,λx hx=>?_⟩
 ·show Rc (Zf ρA 0 w) w (.r (some ⟨b,o,none⟩) ((List.range len).map λi=>(q i).1).length cap e λj=>C (((List.range len).map λi=>(q i).1).getD j d)) (.slice (some ⟨b,o,none⟩) len cap)
  rw[aU,gU]
  refine Rc.r b o len cap e _ (λi=>(q i).2) hl hm (zA hlt) (λj hj i u hu=>⟨?_,(hq j hj).2.1.2 u (aN hu)⟩) (λj hj=>?_) λj hj i c u h1 h2=>?_
  ·have:=cell j hj i u hu
   rw[eX] at this
   rw[gO]
   exact this
  ·rw[bIa hj]
   exact(hq j hj).2.1.1.len.symm
  rw[bIa hj] at h1
  obtain⟨y,h3,h4⟩:=(hq j hj).2.1.1.get h1
  rw[h2] at h3
  injection h3 with h3
  subst h3
  exact aCw h4 (hcl _ c (aN h1))
 ·show((List.range len).map λi=>(q i).1).length<=_
  rw[aU,gU]
  simp only[Rows.uptoBulk]
  omega
 obtain⟨i,hi,rfl⟩:=bT.1 hx
 rw[cV] at hi
 have h5:=bulks.part_le (d:=D i) (l:=(List.range len).map D) (bT.2 ⟨i,cV.2 hi,rfl⟩)
 exact hB _ _ _ (by simp only[Rows.uptoBulk];omega) (hq i hi).2.2
theorem fld {fs:Array Field} {cs:List Value} {xs:List (DataW H×List MemPlace)} {n:Nat} (hf:∀(i:Nat) (f:Field),fs[i]? =some f->DataW.trod enc Tryz.prog w base spare held n f.type ((cs.drop f.offset).take (Tryz.prog.cellsOf f.type))=xs[i]?) (hx:xs.length=fs.size) (i:Nat) {f:Field} (hi:fs[i]? =some f) (t o k:Nat) (hk:Tryz.prog.cellsOf t=k) (ht:f.type=t:=by rfl) (ho:f.offset=o:=by rfl) {α:Type} {C:α->List CV} {B:Nat->α->Prop} (hO:Opn H enc w base spare held t C B) (hB:∀m n a,m<=n->B m a->B n a):
 ∃a:α,(Hl ρA 0 w (C a) ((cs.drop o).take k)/\∀u∈(cs.drop o).take k,u.oneCell'=true)/\B (Rows.uptoBulk (.agg (xs.map (·.1)))-1) a:=by
 have h:=hf i f hi
 rw[ht,ho,hk] at h
 have hlt:i<xs.length:=by rw[hx];exact(iL.1 hi).1
 rw[aE hlt] at h
 obtain⟨a,h1,h2⟩:=hO _ _ _ h
 have h3:=bulks.part_le (d:=xs[i].1) (l:=xs.map (·.1)) (bT.2 ⟨xs[i],iH hlt,rfl⟩)
 exact⟨a,h1,hB _ _ a (by simp only[Rows.uptoBulk];omega) h2⟩
theorem hlS {l r:List CV} {cs:List Value} {o k:Nat} (h1:Hl ρA 0 w l ((cs.drop o).take k)/\∀u∈(cs.drop o).take k,u.oneCell'=true) (h2:Hl ρA 0 w r (cs.drop (o+k))/\∀u∈cs.drop (o+k),u.oneCell'=true):Hl ρA 0 w (l++r) (cs.drop o)/\∀u∈cs.drop o,u.oneCell'=true:=by
 have e:(cs.drop o).take k++cs.drop (o+k)=cs.drop o:=by rw[<-qB,dE]
 rw[<-e]
 refine⟨h1.1.append h2.1,λu hu=>?_⟩
 rcases aQ.1 hu with hu|hu
 ·exact h1.2 u hu
 exact h2.2 u hu
theorem hl0 {cs:List Value} {o:Nat} (h:cs.length=o):Hl ρA 0 w [] (cs.drop o)/\∀u∈cs.drop o,u.oneCell'=true:=by
 rw[List.drop_eq_nil_of_le (by omega)]
 exact⟨trivial,λ_ h=>nomatch h⟩
theorem bGn:Opn H enc w base spare held 123 (λn:Nat=>[uC n]) λ_ n=>n<4294967296:=λfuel cs x h=>by
 obtain⟨z,rfl,_,hwf⟩:=DataW.trod_int underlying123 h
 have hr:0<=z/\z<4294967296:=by simp[Lit.wf,IntKind.min,IntKind.max,IntKind.signed,IntKind.bits] at hwf;omega
 obtain⟨n,rfl⟩:∃n:Nat,z=(n:Int):=⟨z.toNat,by omega⟩
 exact⟨n,⟨⟨Rc.v _,trivial⟩,λu hu=>by rw[aI.1 hu];rfl⟩,by show n<_;omega⟩
def LmB (n:Nat) (s:Sl Nat):Prop:=Lm s.l/\s.l.length<=n
theorem LmB.mono (m n:Nat) (s:Sl Nat) (h:m<=n) (hs:LmB m s):LmB n s:=⟨hs.1,aH hs.2 h⟩
theorem aPz:Opn H enc w base spare held 58 (λs:Sl Nat=>[eD s]) LmB:=λfuel cs x h=>by
 obtain⟨s,h1,h2,h3⟩:=aMl (e:=1) (C:=λn:Nat=>[uC n]) underlying58 (by kernel_rfl) bL (λ_=>rfl) (λ_=>aBy rfl) default bGn (λ_ _ _ _ h=>h) fuel cs x h
 exact⟨s,h1,h3,h2⟩
theorem bBc:Opn H enc w base spare held 60 IntM.C λn i=>LmB n i.m:=λfuel cs x h=>by
 obtain⟨xs,n,_,rfl,hl,hxl,hf⟩:=DataW.trod_struct underlying60 h
 obtain⟨a0,h0,b0⟩:=fld hf hxl 0 rfl 4 0 1 (by kernel_rfl) (hO:=bBb) (hB:=(λ_ _ _ _ _=>trivial))
 obtain⟨a1,h1,b1⟩:=fld hf hxl 1 rfl 58 1 1 (by kernel_rfl) (hO:=aPz) (hB:=LmB.mono)
 have hl2:cs.length=2:=hl.trans (by kernel_rfl)
 exact⟨⟨a0=true,inferInstance,a1⟩,hlS h0 (hlS h1 (hl0 hl2)),b1.mono _ _ _ (nW _ _)⟩
def RtB (n:Nat) (r:RatM):Prop:=LmB (n-1) r.n.m/\LmB (n-1) r.d
theorem RtB.mono (m n:Nat) (r:RatM) (h:m<=n) (hr:RtB m r):RtB n r:=⟨hr.1.mono _ _ _ (Nat.sub_le_sub_right h 1),hr.2.mono _ _ _ (Nat.sub_le_sub_right h 1)⟩
theorem bGo:Opn H enc w base spare held 62 RatM.C RtB:=λfuel cs x h=>by
 obtain⟨xs,n,_,rfl,hl,hxl,hf⟩:=DataW.trod_struct underlying62 h
 obtain⟨a0,h0,b0⟩:=fld hf hxl 0 rfl 60 0 2 (by kernel_rfl) (hO:=bBc) (hB:=λm n a h hs=>LmB.mono m n a.m h hs)
 obtain⟨a1,h1,b1⟩:=fld hf hxl 1 rfl 58 2 1 (by kernel_rfl) (hO:=aPz) (hB:=LmB.mono)
 have hl2:cs.length=3:=hl.trans (by kernel_rfl)
 exact⟨⟨a0,a1⟩,hlS h0 (hlS h1 (hl0 hl2)),b0,b1⟩
theorem bGp:Opn H enc w base spare held 82 EntM.C λn e=>RtB n e.v:=λfuel cs x h=>by
 obtain⟨xs,n,_,rfl,hl,hxl,hf⟩:=DataW.trod_struct underlying82 h
 obtain⟨a0,h0,b0⟩:=fld hf hxl 0 rfl 3 0 1 (by kernel_rfl) (hO:=aGm) (hB:=(λ_ _ _ _ _=>trivial))
 obtain⟨a1,h1,b1⟩:=fld hf hxl 1 rfl 62 1 3 (by kernel_rfl) (hO:=bGo) (hB:=RtB.mono)
 have hl2:cs.length=4:=hl.trans (by kernel_rfl)
 exact⟨⟨a0,a1⟩,hlS h0 (hlS h1 (hl0 hl2)),b1.mono _ _ _ (nW _ _)⟩
def RwB (n:Nat) (s:Sl EntM):Prop:=s.l.length<=n/\∀e∈s.l,RtB n e.v
theorem RwB.mono (m n:Nat) (s:Sl EntM) (h:m<=n) (hs:RwB m s):RwB n s:=⟨aH hs.1 h,λe he=>(hs.2 e he).mono _ _ _ h⟩
theorem bBd (e:EntM):∀c∈e.C,fB c=true:=λc hc=>by
 rcases aW.1 hc with rfl|hc
 ·rfl
 exact gJ _ c hc
theorem bGq:Opn H enc w base spare held 65 (λs:Sl EntM=>[bR s]) RwB:=
 aMl (e:=4) (C:=EntM.C) underlying65 (by kernel_rfl) bL (λ_=>rfl) bBd default bGp λm n a h hs=>RtB.mono m n a.v h hs
def MtB (n:Nat) (m:MatM):Prop:=m.d.l.length<=n/\∀s∈m.d.l,RwB n s
theorem bGr:Opn H enc w base spare held 24 MatM.C MtB:=λfuel cs x h=>by
 obtain⟨xs,n,_,rfl,hl,hxl,hf⟩:=DataW.trod_struct underlying24 h
 obtain⟨a0,h0,b0⟩:=fld hf hxl 0 rfl 3 0 1 (by kernel_rfl) (hO:=aGm) (hB:=(λ_ _ _ _ _=>trivial))
 obtain⟨a1,h1,b1⟩:=fld hf hxl 1 rfl 3 1 1 (by kernel_rfl) (hO:=aGm) (hB:=(λ_ _ _ _ _=>trivial))
 obtain⟨a2,h2,b2⟩:=fld hf hxl 2 rfl 22 2 1 (by kernel_rfl) (hO:=aMl (e:=1) (C:=λs:Sl EntM=>[bR s]) underlying22 (by kernel_rfl) bL (λ_=>rfl) (λ_=>aBy rfl) dK bGq RwB.mono) (hB:=λm n a h hs=>⟨aH hs.1 h,λs hs'=>(hs.2 s hs').mono _ _ _ h⟩)
 have hl2:cs.length=3:=hl.trans (by kernel_rfl)
 exact⟨⟨a0,a1,a2⟩,hlS h0 (hlS h1 (hlS h2 (hl0 hl2))),aH b2.1 (nW _ _),λs hs=>(b2.2 s hs).mono _ _ _ (nW _ _)⟩
end
noncomputable def xS (s:Sl EntM):List En:=s.l.map λe=>(e.ix,Rat.divInt (sg e.v.n.p (val e.v.n.m.l)) (val e.v.d.l))
theorem bBe {s:Sl EntM} {n:Nat} (h:RwB n s):Ev s.l (xS s) (n-1):=⟨by unfold xS;rw[aU],λk hk=>by
 have hk':k<s.l.length:=by unfold xS at hk;rw[aU] at hk;exact hk
 have hb:=h.2 _ (gW hk')
 have e1:(xS s).getD k default=((s.l.getD k default).ix,Rat.divInt (sg (s.l.getD k default).v.n.p (val (s.l.getD k default).v.n.m.l)) (val (s.l.getD k default).v.d.l)):=by
  unfold xS
  simp[List.getD,hk']
 rw[e1]
 exact⟨rfl,⟨⟨hb.1.1,hb.1.2,rfl⟩,hb.2.1,hb.2.2,rfl⟩⟩⟩
theorem Ev.rbE {x:List EntM} {es:List En} {B:Nat} (h:Ev x es B) (h1:1<=B):rbE es B:=λe he=>by
 obtain⟨k,hk,rfl⟩:=List.getElem_of_mem he
 have:=(h.e k hk).2.rb h1
 rw[gd hk] at this
 exact this
theorem bGs (C:MatM) (hB:MtB 1048576 C):Ctr Tryz.prog aPy [] [.a C.C] [] (λ_:Unit=>⟨pC True,[],True⟩):=by
 have hrow:∀i,i<C.d.l.length->RwB 1048576 (C.d.l.getD i dK):=λi hi=>hB.2 _ (by rw[gd hi];exact iH hi)
 have hev:∀i,i<C.d.l.length->Ev (C.d.l.getD i dK).l (xS (C.d.l.getD i dK)) 1048575:=λi hi=>bBe (hrow i hi)
 refine bQg C (M:=λi=>xS (C.d.l.getD i dK)) (B:=1048575) rfl hev (λi hi=>(hev i hi).rbE (by decide)) (by decide) (by decide) λi hi=>?_
 have:=(hrow i hi).1
 show(xS _).length<=_
 unfold xS
 rw[aU]
 omega
namespace updateNewDone
open Go.ChangeShapes Go.WideShapes Go.ChangeAt
theorem own:ownKnob Tryz.prog.godebug=none:=by kernel_rfl
theorem bGt:laidOutB Tryz.prog=true:=by kernel_rfl
set_option maxRecDepth 100000 in
theorem aIw (H:Type) (enc:TypeId×Value->H) (W:World) (base:Nat) (args:Array Value) (ds gs:List (DataW H)) (before:List MemPlace)
 (hval0:∀(j:Nat) t v,Tryz.f3.params[j]? =some t->args[j]? =some v->Value.okWide Tryz.prog W .any base t v)
 (hW:DataW.Whole enc Tryz.prog Tryz.f3.params.toList Rows.updateNewSpec.vars false W args.toList ds gs before) (hk:Rows.uptoSmall H (ds++gs)=true):
 Calls Tryz.prog 3 args W λe W'=>∃v,e= .returned v/\Rows.updateNewSpec.post enc Tryz.prog Tryz.f3 false true false false W args v W':=by
 have hval:∀(j:Nat) t v,Tryz.f3.params[j]? =some t->args[j]? =some v->Value.okWide Tryz.prog W .any base t v:=hval0
 have hW':=hW
 obtain⟨p,q,hA0,hV,rfl,hfz,hnd⟩:=hW
 have hA:DataW.TrodAll enc Tryz.prog W 0 (λ_=>true) true Tryz.f3.params.toList args.toList ds p:=hA0
 rw[Tryz.params3] at hA hval
 obtain⟨v0,vs0,d0,ds0,p0,q0,hargs,rfl,rfl,h0,r0⟩:=trodAll_cons hA
 obtain⟨rfl,rfl,rfl⟩:=trodAll_nil r0
 obtain rfl:args=#[v0]:=by cases args;simp_all
 obtain⟨rfl,rfl⟩:=trodVars_none hV
 have hbk:Rows.uptoBulkAll [d0]<=1048576:=by
  simp only[dL] at hk
  exact of_decide_eq_true hk
 simp only[Rows.uptoBulkAll] at hbk
 obtain⟨cs0,rfl,hcs0⟩:=okWide_struct underlying24 (hval 0 24 v0 rfl rfl)
 have k0:=h0
 have lt0:∀x∈p0,x.block<W.heap.size:=by obtain⟨m,hm⟩:=k0;exact DataW.trod_lt m _ _ _ hm
 obtain⟨C,hC,hB⟩:∃C:MatM,Hd ρA 0 W (.a C.C) (.agg cs0)/\MtB 1048576 C:=by
  obtain⟨fuel,hf⟩:=h0
  obtain⟨C,⟨hl,_⟩,b⟩:=bGr _ _ _ hf
  have hn:Rows.uptoBulk d0<=1048576:=by omega
  refine⟨C,?_,aH b.1 hn,λs hs=>(b.2 s hs).mono _ _ _ hn⟩
  obtain⟨l0⟩:=cs0
  exact .a hl
 clear hA0 hval0
 refine((bGs C hB).run ρA W [.agg cs0] ⟨hC,trivial⟩ ⟨λi T es l hi=>(by cases hi),λi j b hi=>absurd hi (aM _),λi b _ hi=>absurd hi (aM _),aF _,⟨rfl,rfl,rfl,aF _,λ_ _ _ _=>rfl⟩,λi hi=>rfl,⟨rfl,λ_ _=>trivial⟩,FamOk.nil,λb hb=> .inr hb⟩ rfl).mono λe W' ⟨v,he,g,ρ',_,hDr,hdv,_,_⟩=>?_
 have hr:=hDr.rel
 have bel:Below W.heap.size W W':=⟨hr.os,hr.tape,hr.output,hr.size,λk hk=>hr.block k hk (λi hi=>absurd hi (aM _)) λ⟨F,hF,_⟩=>by cases hF⟩
 have hv:v= .bool true:=by
  have h5:=hdv.inv_c.inv_b
  rw[h5]
  simp
 subst he hv
 exact⟨_,rfl,_,_,_,[],_,[],hW',trodAll_mk1 (shut_bool underlying4 _),(trodAll_cons_mk (Below.trod bGt (by kernel_rfl) (of_decide_eq_true (by kernel_rfl)) k0 bel lt0) trodAll_mk0),rfl,bel.frame _,λh=>by cases h⟩
set_option maxRecDepth 100000 in
theorem bQi (os:Os) (started:os.Started) (H:Type) (enc:TypeId×Value->H) (F:Stop.Interp):
 ReturnsInHanded {} Tryz.checked os 3 .any ((Rows.OpenSpec.upto Rows.updateNewSpec).pre6 enc Tryz.prog Tryz.f3 Rows.updateNewUptoRow.domain false) (((Rows.OpenSpec.upto Rows.updateNewSpec).at F).post enc Tryz.prog Tryz.f3 false true false false):=by
 refine returnsInHanded_of_cond (C:=Tryz.checked) (s:=Rows.OpenSpec.upto Rows.updateNewSpec) (k:=Rows.uptoSmall) rfl own started (by kernel_rfl) func3
  (OpenSpec.witness (enc:=enc) (C:=Tryz.checked) (s:=Rows.OpenSpec.upto Rows.updateNewSpec) (k:=Rows.uptoSmall) rfl false ⟨#[],#[.agg #[.int .i64 0,.int .i64 0,.slice none 0 0]],[]⟩ 8 (by kernel_rfl) (by kernel_rfl) (by kernel_rfl)
   (x:=([.agg [.lit (.int .i64 0),.lit (.int .i64 0),.nil]],[],[])) (by kernel_rfl) rfl (by kernel_rfl)) ?_
 intro W base args ds gs before hval hW _ hk _
 exact aIw H enc W base args ds gs before hval hW hk
theorem proved:Rows.UpdateNewUptoSaid:=
 OpenClaim.holds_of_cond 3 Tryz.f3 rfl rfl rfl rfl rfl rfl rfl ⟨rfl,rfl,rfl,rfl,rfl⟩ rfl rfl rfl rfl rfl (by kernel_rfl) func3 (by kernel_rfl)
  (of_decide_eq_true (by kernel_rfl)) (by unfold Func.isWrapper;first|(rw[if_pos (by decide+kernel)];kernel_rfl)|(rw[if_neg (by decide+kernel)];exact⟨rfl,rfl⟩))
  (λos started H enc _ F=>bQi os started H enc F)
#print axioms proved
end updateNewDone
end Go.Proofs.YtghncoghdcmdfaaGreat
