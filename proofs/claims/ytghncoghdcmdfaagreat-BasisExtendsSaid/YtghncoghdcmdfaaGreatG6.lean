/- THE STATEMENT BasisExtends of the program's law 13 is proved: for every input the law returns true; it has no conditions. Part 6 of 7: Ql Qm Ba Bb Bc Bd Bn Be Bf Bg Bh Bi Bj Sz Bk Bl Bm Bo Bp Bq Br. -/
import Derived.Test.YtghncoghdcmdfaaGreatG5
set_option maxHeartbeats 4000000
set_option linter.unusedVariables false
set_option linter.unusedSimpArgs false
namespace Go.Proofs.YtghncoghdcmdfaaGreat
open Go.Vg _root_.Go.Proofs.Tryz
open Go.Vm
open Go.Vy hiding val
set_option maxRecDepth 20000
theorem vS {P:Program} {nb N:Nat} {cd:Code} {K:Kt} {s:SS} (i k T es:Nat) {T0 e0:Nat} {l:List CV} (hb:s.bl[i]? =some (T0,e0,l)) (hk:l[k]? =some (.v (.slice none 0 0))) (hes:0<es) (hgl:s.gl=[]) (h:mO s.bl i (T0,e0,l.set k (.s (cnt s.bl 0) 0)) λb1=>qW b1 (T,es,[]) λbl'=>Sd P nb N cd K ⟨s.sl,[],bl',s.fl⟩):Sd P nb N cd K s:=bQx tSd i k T es hb hk hes hgl h
theorem VOk.le {es:List En} {a b:Int} (h:VOk es a) (hab:a<=b):VOk es b:=⟨h.1,λe he=>⟨(h.2 e he).1,Int.lt_of_lt_of_le (h.2 e he).2.1 hab,(h.2 e he).2.2⟩⟩
theorem VOk.snoc {es:List En} {k:Nat} {q:Rat} (h:VOk es (k:Nat)) (hq:q≠0):VOk (es++[((k:Int),q)]) ((k+1:Nat):Int):=⟨eR.2 ⟨h.1,eJ _ _,λe he x hx=>by rw[aH.1 hx];exact(h.2 e he).2.1⟩,λe he=>by
 rcases aQ.1 he with he|he
 ·have:=h.2 e he
  exact⟨this.1,by omega,this.2.2⟩
 rw[aH.1 he];exact⟨by show(0:Int)<=(k:Nat);omega,by show(k:Int)<_;omega,hq⟩⟩
structure RwS (r:RowM) (b:Rat) (es:List En) (n:Nat):Prop where
 rd:RowR r b es 1
 s:Sns r.s
 v:VOk es (n:Nat)
 bc:Cr r.b b
 b:rb b 1
 e:rbE es 1
 ln:es.length<=n
abbrev cSx:List CV:=[iC 0,.b (false=true) inferInstance,.v (.slice none 0 0),.v (.slice none 0 0),.v (.slice none 0 0)]
abbrev bHv (d:Sl Int) (q:Nat) (s:Int) (b:RatM) (L:List EntM):BL:=[(98,0,[cD d,iC q]),(67,0,cSx),(67,0,[iC s,.b b.n.p b.n.d,eK b.n.m,eK b.d,.s 3 L.length]),(82,4,ecs L)]
theorem aKp {d:Sl Int} {q:Nat} {s:Int} {b:RatM} {L:List EntM}:scB 4 (bHv d q s b L):=aB rfl (aB rfl (aB rfl (aB (bU (gN L)) aY)))
abbrev bOr (n k:Nat):List (Nat×DV):=[(6,.c (iC k)),(0,.c (.p 0 0)),(1,.c (iC n)),(4,.c (.p 1 0)),(5,.c (.p 2 0))]
theorem cMa {T:Nat} {A:Option Nat} {a:Nat} {L:List EntM}:FrC ⟨T,4,1,λ_=>A,λ_=>a,λ_=>ecs L⟩ (.h A L.length a) (cF ⟨A.map λb=>⟨b,0,none⟩,a,L⟩):=⟨0,L.length,_,bL,rfl,rfl,(gM _).symm,λk hk=>rX L k hk⟩
abbrev bHw:FuncId:=36
theorem cMb:Ent Tryz.prog bHw:=aU func36 rfl kR
theorem cMc:Tryz.prog.funcs[bHw]? =some Tryz.f36:=func36
theorem bHx (d:Sl Int) (p n:Nat) (hd:d.l.length<=9223372036854775807) (hp:p<=d.l.length) (hn:n<=1000):Ctr Tryz.prog bHw [true] [.c (.p 0 0),.c (iC n)] (tpB d p) (λg:RowM×(Rat×List En)×Nat=>⟨.a g.1.C,tpB d g.2.2,RwS g.1 g.2.1.1 g.2.1.2 n/\g.2.2<=d.l.length⟩):=by
 refine aW gT cMb cMc rfl rfl rfl bL (eW rfl) (Sd.sq (aA gT mxd (Sd.sq (aA gT mxd ⟨[0],mT d p 3 hd hp dC dC,rfl,rfl,rfl,λs ⟨hs,hp1⟩=>⟨s.1-1,wi (h:=⟨rfl,by omega,by omega⟩),[0],aRa d s.2 hd hp1,rfl,rfl,rfl,λg1 ⟨⟨hg,hgb⟩,hp2⟩=>vS 2 4 82 4 rfl rfl bL rfl (aA gT mxd ?_)⟩⟩))))
 refine cG (λ_=>true) (λg:Nat×List EntM×List En×Nat=>bOr n g.1) (λg=>bHv d g.2.2.2 (s.1-1) g1.1 g.2.1) (λ_=>[]) (λg=>(g.1<=n/\Ek g.2.1 g.2.2.1)/\(VOk g.2.2.1 (g.1:Nat)/\rbE g.2.2.1 1/\g.2.2.1.length<=g.1)/\g.2.2.2<=d.l.length) (λg=>n-g.1) λhM=>⟨bH hM (chg:=λg:Nat×List EntM×List En×Nat=>bOr n g.1) (bls:=λg=>bHv d g.2.2.2 (s.1-1) g1.1 g.2.1) (fls:=λ_=>[]) (0,[],[],g1.2.2) ⟨⟨aC _,⟨rfl,λk hk=>absurd hk (aF _)⟩⟩,⟨⟨List.Pairwise.nil,λe he=>(by cases he)⟩,λe he=>(by cases he),aI _⟩,hp2⟩ rfl ⟨rfl,rfl,rfl,rfl⟩ trivial ⟨rfl,rfl,rfl,rfl,rfl⟩ bL aKp rfl,λ⟨k,L,es,q⟩ ⟨⟨hk,hL⟩,⟨hv,hb,hl⟩,hq⟩=>aA gT mxd ⟨λh1=>aA gT mxd ?_,λh1=>aA gT mxd ?_⟩⟩
 all_goals
  replace hk:k<=n:=hk
  replace hL:Ek L es:=hL
  replace hv:VOk es (k:Nat):=hv
  replace hb:rbE es 1:=hb
  replace hl:es.length<=k:=hl
  replace hq:q<=d.l.length:=hq
  have hLl:=hL.ln
 ·have hkn:k<n:=by replace h1:(k:Int)<(n:Nat):=h1;omega
  refine⟨[0],mT d q 3 hd hq dC dC,rfl,rfl,rfl,λr ⟨hr,hr2⟩=>⟨λh2=>aA gT mxd ⟨.treeX [] [2000,1,2002,2003] (trS [4,2005,6,1007,2008,1009]),by kernel_rfl,[0],cLw d r.2 hd hr2,rfl,rfl,rfl,λg2 ⟨⟨⟨hg2,hz2⟩,hb2⟩,hp3⟩=>⟨rfl,rfl,⟨rfl,(by rw[gM]),by show L.length+1<=maxLen;simp only[maxLen];omega,by show(L.length+1)*64<=_;omega,λc hc=>(aQ.1 hc).elim (λh=>cY (gN L c h)) (mK ⟨k,g2.1⟩ c)⟩,mK ⟨k,g2.1⟩,(k+1:Nat),wi,bH hM (chg:=λg:Nat×List EntM×List En×Nat=>bOr n g.1) (bls:=λg=>bHv d g.2.2.2 (s.1-1) g1.1 g.2.1) (fls:=λ_=>[]) (k+1,L++[⟨k,g2.1⟩],es++[((k:Int),g2.2.1)],g2.2.2) ⟨⟨⟨hkn,vK hL hg2⟩,⟨hv.snoc hz2,?_,by show(es++[_]).length<=k+1;simp;omega⟩,hp3⟩,show n-(k+1)<n-k by omega⟩ rfl ⟨rfl,rfl,?_,?_⟩ trivial ⟨rfl,rfl,rfl,rfl,rfl⟩ bL aKp rfl⟩⟩,λh2=>aA gT mxd ⟨(k+1:Nat),wi,bH hM (chg:=λg:Nat×List EntM×List En×Nat=>bOr n g.1) (bls:=λg=>bHv d g.2.2.2 (s.1-1) g1.1 g.2.1) (fls:=λ_=>[]) (k+1,L,es,r.2) ⟨⟨⟨hkn,hL⟩,⟨hv.le oM,hb,Nat.le_succ_of_le hl⟩,hr2⟩,show n-(k+1)<n-k by omega⟩ rfl ⟨rfl,rfl,rfl,rfl⟩ trivial ⟨rfl,rfl,rfl,rfl,rfl⟩ bL aKp rfl⟩⟩⟩
  ·intro e he
   rcases aQ.1 he with he|he
   ·exact hb e he
   rw[aH.1 he];exact hb2
  ·show(_,_,[_,_,_,_,CV.s 3 (L.length+1)])=(_,_,[_,_,_,_,CV.s 3 (L++[_]).length])
   rw[aE];rfl
  show(_,_,_)=(_,_,_)
  rw[<-qF];rfl
 have hkn:k=n:=by replace h1:¬(k:Int)<(n:Nat):=h1;omega
 subst hkn
 show Sd _ _ _ _ _ _
 refine jV tSd 3 rfl bL (gN L) bL rfl λA a=>iX tSd 2 0 [iC (s.1-1),.b g1.1.n.p g1.1.n.d,eK g1.1.n.m,eK g1.1.d,cF ⟨A.map λb=>⟨b,0,none⟩,a,L⟩] rfl rfl rfl rfl (oT (k0:=4) rfl cMa) ?_
 exact aA gT mxd ⟨(⟨s.1-1,g1.1,⟨A.map λb=>⟨b,0,none⟩,a,L⟩⟩,(g1.2.1,es),q),⟨⟨⟨Cr.rq hg hgb,hL.ev hb⟩,by unfold Sns;show s.1-1=-1\/s.1-1=0\/s.1-1=1;omega,hv,hg,hgb,hb,hl⟩,hq⟩,fH rfl rfl bL (aB rfl aY) rfl (eW rfl)⟩
theorem kL {l:List CV} (h:l.all fK=true):∀x∈l,fK x=true:=aV.1 h
theorem sC (c:ColM):∀x∈c.C,fK x=true:=kL rfl
theorem kA (r:RowM):∀x∈r.C,fK x=true:=kL rfl
structure ClS (c:ColM) (k l u:Rat):Prop where
 r:ColR c k l u 3
 x:¬Crs c l u
 kc:Cr c.k k
 k:rb k 3
 l:rb l 3
 u:rb u 3
def bHy (C:List ColM):Prop:=∀c∈C,∃k l u,ClS c k l u
def aYj (R:List RowM) (n:Nat):Prop:=∀r∈R,∃b es,RwS r b es n
abbrev aSd (d:Sl Int) (q:Nat) (C:List ColM) (R:List RowM):BL:=[(98,0,[cD d,iC q]),(42,0,[.v (.slice none 0 0),.v (.slice none 0 0)]),(42,0,[.s 3 C.length,.s 4 R.length]),(106,11,fl ColM.C default C),(67,5,fl RowM.C default R)]
theorem aDi {d:Sl Int} {q:Nat} {C:List ColM} {R:List RowM}:scB 5 (aSd d q C R):=aB rfl (aB rfl (aB rfl (aB (bU (qZ sC)) (aB (bU (qZ kA)) aY))))
abbrev cBg (b:Nat) (k:Int):List (Nat×DV):=[(8,.c (iC k)),(0,.c (.p 0 0)),(2,.c (iC b)),(6,.c (.p 1 0)),(7,.c (.p 2 0))]
abbrev cBh (k:Int):List (Nat×DV):=[(9,.c (iC k)),(0,.c (.p 0 0)),(6,.c (.p 1 0)),(7,.c (.p 2 0))]
theorem bHz {α:Type} {f:α->List CV} {dd:α} {e T:Nat} {A:Option Nat} {a:Nat} {L:List α} (he:∀x,(f x).length=e) (h0:0<e):FrC ⟨T,e,1,λ_=>A,λ_=>a,λ_=>fl f dd L⟩ (.h A L.length a) ((⟨A.map λb=>⟨b,0,none⟩,a,L⟩:Sl α).R e f dd):=⟨0,L.length,_,bL,rfl,rfl,(yZ he).symm,λk hk=>bFa he k hk⟩
abbrev bIa:FuncId:=51
theorem cMd:Ent Tryz.prog bIa:=aU func51 rfl kR
theorem cMe:Tryz.prog.funcs[bIa]? =some Tryz.f51:=func51
theorem cBi (d:Sl Int) (p a b:Nat) (hd:d.l.length<=9223372036854775807) (hp:p<=d.l.length) (ha:0<a) (ha2:a<=1000) (hb:b<=1000):Ctr Tryz.prog bIa [true] [.c (.p 0 0),.c (iC a),.c (iC b)] (tpB d p) (λg:ProgM×Nat=>⟨.a g.1.C,tpB d g.2,((1<=g.1.c.l.length/\g.1.c.l.length<=a/\g.1.r.l.length<=b)/\bHy g.1.c.l/\aYj g.1.r.l g.1.c.l.length)/\g.2<=d.l.length⟩):=by
 refine aW gT cMd cMe rfl rfl rfl bL (eW rfl) (Sd.sq (aA gT mxd (Sd.sq (aA gT mxd (vS 2 0 106 11 rfl rfl bL rfl (vS 2 1 67 5 rfl rfl bL rfl (aA gT mxd ⟨[0],mT d p a hd hp oM oM,rfl,rfl,rfl,λs ⟨hs,hp1⟩=>⟨1+s.1,wi (h:=⟨rfl,by omega,by omega⟩),?_⟩⟩)))))))
 refine cG (λ_=>true) (λg:List ColM×Nat=>cBg b (1+s.1-(g.1.length:Nat))) (λg=>aSd d g.2 g.1 []) (λ_=>[]) (λg=>((g.1.length:Nat)<=1+s.1/\bHy g.1)/\g.2<=d.l.length) (λg=>(1+s.1-(g.1.length:Nat)).toNat) λhM=>⟨bH hM (chg:=λg:List ColM×Nat=>cBg b (1+s.1-(g.1.length:Nat))) (bls:=λg=>aSd d g.2 g.1 []) (fls:=λ_=>[]) ([],s.2) ⟨⟨by show(0:Int)<=1+s.1;omega,λc hc=>(by cases hc)⟩,hp1⟩ rfl ⟨rfl,rfl,rfl,rfl,rfl⟩ trivial ⟨?_,rfl,rfl,rfl,rfl⟩ bL aDi rfl,λ⟨C,q⟩ ⟨⟨hk,hC⟩,hq⟩=>aA gT mxd ⟨λh1=>aA gT mxd ?_,λh1=>aA gT mxd ?_⟩⟩
 ·show(1+s.1:Int)=1+s.1-((0:Nat):Int);omega
 all_goals
  replace hk:((C.length:Nat):Int)<=1+s.1:=hk
  replace hC:bHy C:=hC
  replace hq:q<=d.l.length:=hq
 ·replace h1:(0:Int)<1+s.1-(C.length:Nat):=h1
  refine⟨.treeX [] [2000,1,2002] (trS [3,4,1005,2006,1007]),by kernel_rfl,[0],cBf d q hd hq,rfl,rfl,rfl,λg hg=>⟨rfl,rfl,⟨rfl,(yZ (f:=ColM.C) (d:=default) (L:=C) (e:=11) λ_=>rfl).symm,by show C.length+1<=maxLen;simp only[maxLen];omega,by show(C.length+1)*184<=_;omega,λc hc=>(aQ.1 hc).elim (λh=>cY (qZ sC c h)) λh=>cY (sC g.M c h)⟩,λc hc=>cY (qZ kA c hc),λc hc=>cY (sC g.M c hc),1+s.1-(C.length:Nat)-1,wi (h:=⟨rfl,by omega,by omega⟩),bH hM (chg:=λg:List ColM×Nat=>cBg b (1+s.1-(g.1.length:Nat))) (bls:=λg=>aSd d g.2 g.1 []) (fls:=λ_=>[]) (C++[g.M],g.p) ⟨⟨⟨?_,?_⟩,hg.p⟩,?_⟩ rfl ⟨rfl,rfl,?_,?_,rfl⟩ trivial ⟨?_,rfl,rfl,rfl,rfl⟩ bL aDi rfl⟩⟩
  ·show(((C++[g.M]).length:Nat):Int)<=_
   simp;omega
  ·intro c hc
   rcases aQ.1 hc with hc|hc
   ·exact hC c hc
   rw[aH.1 hc];exact⟨_,_,_,hg.r,hg.x,hg.kc,hg.k,hg.l,hg.u⟩
  ·show(1+s.1-(((C++[g.M]).length:Nat):Int)).toNat<(1+s.1-((C.length:Nat):Int)).toNat
   simp;omega
  ·show(_,_,[CV.s 3 (C.length+1),_])=(_,_,[CV.s 3 (C++[_]).length,_])
   rw[aE];rfl
  ·show(_,_,_)=(_,_,_)
   rw[<-aKe];rfl
  show 1+s.1-((C.length:Nat):Int)-1=1+s.1-(((C++[g.M]).length:Nat):Int)
  simp;omega
 replace h1:¬(0:Int)<1+s.1-(C.length:Nat):=h1
 have hCl:((C.length:Nat):Int)=1+s.1:=by omega
 refine aA gT mxd ⟨(b:Int)+1,wi (h:=⟨rfl,by omega,by omega⟩),[0],mT d q ((b:Int)+1) hd hq oM oM,rfl,rfl,rfl,λt ⟨ht,hq1⟩=>?_⟩
 refine cG (λ_=>true) (λg:List RowM×Nat=>cBh (t.1-(g.1.length:Nat))) (λg=>aSd d g.2 C g.1) (λ_=>[]) (λg=>((g.1.length:Nat)<=t.1/\aYj g.1 C.length)/\g.2<=d.l.length) (λg=>(t.1-(g.1.length:Nat)).toNat) λhM=>⟨bH hM (chg:=λg:List RowM×Nat=>cBh (t.1-(g.1.length:Nat))) (bls:=λg=>aSd d g.2 C g.1) (fls:=λ_=>[]) ([],t.2) ⟨⟨by show(0:Int)<=t.1;omega,λc hc=>(by cases hc)⟩,hq1⟩ rfl ⟨rfl,rfl,rfl,rfl,rfl⟩ trivial ⟨?_,rfl,rfl,rfl⟩ bL aDi rfl,λ⟨R,q⟩ ⟨⟨hk,hR⟩,hq⟩=>aA gT mxd ⟨λh1=>aA gT mxd ?_,λh1=>aA gT mxd ?_⟩⟩
 ·show t.1=t.1-((0:Nat):Int);omega
 all_goals
  replace hk:((R.length:Nat):Int)<=t.1:=hk
  replace hR:aYj R C.length:=hR
  replace hq:q<=d.l.length:=hq
 ·replace h1:(0:Int)<t.1-(R.length:Nat):=h1
  refine⟨.treeX [] [2000,1,2002,2003,4,2005] (trS [6,7,1008,2009,1010]),by kernel_rfl,[0],bHx d q C.length hd hq oM,rfl,rfl,rfl,λg ⟨hg,hq2⟩=>⟨rfl,rfl,⟨rfl,(yZ (f:=RowM.C) (d:=default) (L:=R) (e:=5) λ_=>rfl).symm,by show R.length+1<=maxLen;simp only[maxLen];omega,by show(R.length+1)*88<=_;omega,λc hc=>(aQ.1 hc).elim (λh=>cY (qZ kA c h)) λh=>cY (kA g.1 c h)⟩,λc hc=>cY (qZ sC c hc),λc hc=>cY (kA g.1 c hc),t.1-(R.length:Nat)-1,wi (h:=⟨rfl,by omega,by omega⟩),bH hM (chg:=λg:List RowM×Nat=>cBh (t.1-(g.1.length:Nat))) (bls:=λg=>aSd d g.2 C g.1) (fls:=λ_=>[]) (R++[g.1],g.2.2) ⟨⟨⟨?_,?_⟩,hq2⟩,?_⟩ rfl ⟨rfl,rfl,?_,rfl,?_⟩ trivial ⟨?_,rfl,rfl,rfl⟩ bL aDi rfl⟩⟩
  ·show(((R++[g.1]).length:Nat):Int)<=_
   simp;omega
  ·intro c hc
   rcases aQ.1 hc with hc|hc
   ·exact hR c hc
   rw[aH.1 hc];exact⟨_,_,hg⟩
  ·show(t.1-(((R++[g.1]).length:Nat):Int)).toNat<(t.1-((R.length:Nat):Int)).toNat
   simp;omega
  ·show(_,_,[_,CV.s 4 (R.length+1)])=(_,_,[_,CV.s 4 (R++[_]).length])
   rw[aE];rfl
  ·show(_,_,_)=(_,_,_)
   rw[<-aKe];rfl
  show t.1-((R.length:Nat):Int)-1=t.1-(((R++[g.1]).length:Nat):Int)
  simp;omega
 show Sd _ _ _ _ _ _
 refine jV tSd 4 rfl bL (qZ kA) bL rfl λA a1=>⟨_,kV jN (qZ sC),iX tSd 2 0 [.s 3 C.length,aGe ⟨A.map λb=>⟨b,0,none⟩,a1,R⟩] rfl rfl rfl rfl (oT (k0:=1) rfl (bHz (λ_=>rfl) bL)) ?_⟩
 refine jV tSd 3 rfl bL (qZ sC) bL rfl λA2 a2=>⟨_,rfl,iX tSd 2 1 [rZ ⟨A2.map λb=>⟨b,0,none⟩,a2,C⟩,aGe ⟨A.map λb=>⟨b,0,none⟩,a1,R⟩] rfl rfl rfl rfl (oT (k0:=0) rfl (bHz (λ_=>rfl) bL)) ?_⟩
 exact aA gT mxd ⟨(⟨⟨A2.map λb=>⟨b,0,none⟩,a2,C⟩,⟨A.map λb=>⟨b,0,none⟩,a1,R⟩⟩,q),⟨⟨⟨by show 1<=C.length;omega,by show C.length<=a;omega,by show R.length<=b;omega⟩,hC,hR⟩,hq⟩,fH rfl rfl bL (aB rfl aY) rfl (eW rfl)⟩
abbrev bIb:FuncId:=15
theorem cMf:Ent Tryz.prog bIb:=aU func15 rfl kR
theorem cMg:Tryz.prog.funcs[bIb]? =some Tryz.f15:=func15
theorem cBj (d:Sl Int) (hd:d.l.length<=9223372036854775807):Ctr Tryz.prog bIb [] [.c (cD d)] [] (λg:ProgM=>⟨.a g.C,[],((1<=g.c.l.length/\g.c.l.length<=4/\g.r.l.length<=4)/\bHy g.c.l/\aYj g.r.l g.c.l.length)⟩):=
 aW gT cMf cMg rfl rfl rfl bL aS (aA gT mxd ⟨[],aKf d,rfl,rfl,rfl,λ_ _=>⟨[1],cBi d 0 4 4 hd (aC _) dC dC dC,rfl,rfl,rfl,λg hg=>⟨g.1,hg.1,aM rfl rfl trivial⟩⟩⟩)
structure BasM where
 c:Sl Int
 r:Sl Int
def BasM.C (b:BasM):List CV:=[cD b.c,cD b.r]
abbrev aSe (d:Sl Int) (p:ProgM) (q:Nat) (C R:List Int):BL:=[(98,0,[cD d,iC q]),(42,0,p.C),(45,0,[.v (.slice none 0 0),.v (.slice none 0 0)]),(45,0,[.s 4 C.length,.s 5 R.length]),(3,1,C.map iC),(3,1,R.map iC)]
theorem aDj {d:Sl Int} {p:ProgM} {q:Nat} {C R:List Int}:scB 6 (aSe d p q C R):=aB rfl (aB rfl (aB rfl (aB rfl (aB (bU (bK _)) (aB (bU (bK _)) aY)))))
abbrev cBk (k:Nat):List (Nat×DV):=[(6,.c (iC k)),(0,.c (.p 0 0)),(3,.c (.p 1 0)),(4,.c (.p 2 0)),(5,.c (.p 3 0))]
abbrev cBl (k:Nat):List (Nat×DV):=[(7,.c (iC k)),(0,.c (.p 0 0)),(3,.c (.p 1 0)),(4,.c (.p 2 0)),(5,.c (.p 3 0))]
theorem aCq {T:Nat} {A:Option Nat} {a:Nat} {L:List Int}:FrC ⟨T,1,1,λ_=>A,λ_=>a,λ_=>L.map iC⟩ (.h A L.length a) (cD ⟨A.map λb=>⟨b,0,none⟩,a,L⟩):=⟨0,L.length,_,bL,rfl,rfl,by rw[aN,bI],λk hk=>nS k hk⟩
abbrev bIc:FuncId:=17
theorem cMh:Ent Tryz.prog bIc:=aU func17 rfl kR
theorem cMi:Tryz.prog.funcs[bIc]? =some Tryz.f17:=func17
theorem aSf (d:Sl Int) (p:ProgM) (q0:Nat) (hd:d.l.length<=9223372036854775807) (hp:q0<=d.l.length) (h1:p.c.l.length<=1000) (h2:p.r.l.length<=1000):Ctr Tryz.prog bIc [true] [.c (.p 0 0),.a p.C] (tpB d q0) (λg:BasM×Nat=>⟨.a g.1.C,tpB d g.2,(g.1.c.l.length=p.c.l.length/\g.1.r.l.length=p.r.l.length)/\g.2<=d.l.length⟩):=by
 refine aW gT cMh cMi rfl rfl rfl bL (eW rfl) (Sd.sq (aA gT mxd (Sd.sq (aA gT mxd (vS 3 0 3 1 rfl rfl bL rfl (vS 3 1 3 1 rfl rfl bL rfl (aA gT mxd ?_)))))))
 refine cG (λ_=>true) (λg:List Int×Nat=>cBk g.1.length) (λg=>aSe d p g.2 g.1 []) (λ_=>[]) (λg=>g.1.length<=p.c.l.length/\g.2<=d.l.length) (λg=>p.c.l.length-g.1.length) λhM=>⟨bH hM (chg:=λg:List Int×Nat=>cBk g.1.length) (bls:=λg=>aSe d p g.2 g.1 []) (fls:=λ_=>[]) ([],q0) ⟨aC _,hp⟩ rfl ⟨rfl,rfl,rfl,rfl,rfl,rfl⟩ trivial ⟨rfl,rfl,rfl,rfl,rfl⟩ bL aDj rfl,λ⟨C,q⟩ ⟨hk,hq⟩=>aA gT mxd ⟨λh1=>aA gT mxd ?_,λh1=>aA gT mxd ?_⟩⟩
 all_goals
  replace hk:C.length<=p.c.l.length:=hk
  replace hq:q<=d.l.length:=hq
 ·replace h1:(C.length:Int)<(p.c.l.length:Nat):=h1
  refine⟨.treeX [] [2000,1,2002] (trS [3,4,1005,2006,1007]),by kernel_rfl,[0],mT d q 5 hd hq dC dC,rfl,rfl,rfl,λg ⟨hg,hq2⟩=>⟨rfl,rfl,apI (x:=C) oM,(λc hc=>by cases hc),(λc hc=>by rw[aH.1 hc];rfl),(C.length+1:Nat),wi,bH hM (chg:=λg:List Int×Nat=>cBk g.1.length) (bls:=λg=>aSe d p g.2 g.1 []) (fls:=λ_=>[]) (C++[g.1],g.2) ⟨⟨?_,hq2⟩,?_⟩ rfl ⟨rfl,rfl,rfl,?_,?_,rfl⟩ trivial ⟨?_,rfl,rfl,rfl,rfl⟩ bL aDj rfl⟩⟩
  ·show(C++[g.1]).length<=_;simp;omega
  ·show p.c.l.length-(C++[g.1]).length<p.c.l.length-C.length;simp;omega
  ·show(_,_,[CV.s 4 (C.length+1),_])=(_,_,[CV.s 4 (C++[_]).length,_])
   rw[aE];rfl
  ·show(_,_,_)=(_,_,_)
   rw[bG];rfl
  show((C.length+1:Nat):Int)=((C++[g.1]).length:Nat);simp
 replace h1:¬(C.length:Int)<(p.c.l.length:Nat):=h1
 refine aA gT mxd ?_
 refine cG (λ_=>true) (λg:List Int×Nat=>cBl g.1.length) (λg=>aSe d p g.2 C g.1) (λ_=>[]) (λg=>g.1.length<=p.r.l.length/\g.2<=d.l.length) (λg=>p.r.l.length-g.1.length) λhM=>⟨bH hM (chg:=λg:List Int×Nat=>cBl g.1.length) (bls:=λg=>aSe d p g.2 C g.1) (fls:=λ_=>[]) ([],q) ⟨aC _,hq⟩ rfl ⟨rfl,rfl,rfl,rfl,rfl,rfl⟩ trivial ⟨rfl,rfl,rfl,rfl,rfl⟩ bL aDj rfl,λ⟨R,q⟩ ⟨hk,hq⟩=>aA gT mxd ⟨λh1=>aA gT mxd ?_,λh1=>aA gT mxd ?_⟩⟩
 all_goals
  replace hk:R.length<=p.r.l.length:=hk
  replace hq:q<=d.l.length:=hq
 ·replace h1:(R.length:Int)<(p.r.l.length:Nat):=h1
  refine⟨.treeX [] [2000,1,2002] (trS [3,4,1005,2006,1007]),by kernel_rfl,[0],mT d q 4 hd hq dC dC,rfl,rfl,rfl,λg ⟨hg,hq2⟩=>⟨rfl,rfl,apI (x:=R) oM,(λc hc=>cY (bK _ c hc)),(λc hc=>by rw[aH.1 hc];rfl),(R.length+1:Nat),wi,bH hM (chg:=λg:List Int×Nat=>cBl g.1.length) (bls:=λg=>aSe d p g.2 C g.1) (fls:=λ_=>[]) (R++[g.1],g.2) ⟨⟨?_,hq2⟩,?_⟩ rfl ⟨rfl,rfl,rfl,?_,rfl,?_⟩ trivial ⟨?_,rfl,rfl,rfl,rfl⟩ bL aDj rfl⟩⟩
  ·show(R++[g.1]).length<=_;simp;omega
  ·show p.r.l.length-(R++[g.1]).length<p.r.l.length-R.length;simp;omega
  ·show(_,_,[_,CV.s 5 (R.length+1)])=(_,_,[_,CV.s 5 (R++[_]).length])
   rw[aE];rfl
  ·show(_,_,_)=(_,_,_)
   rw[bG];rfl
  show((R.length+1:Nat):Int)=((R++[g.1]).length:Nat);simp
 replace h1:¬(R.length:Int)<(p.r.l.length:Nat):=h1
 show Sd _ _ _ _ _ _
 refine jV tSd 5 rfl bL (bK _) bL rfl λA a1=>⟨_,kV jN (bK _),iX tSd 3 0 [.s 4 C.length,cD ⟨A.map λb=>⟨b,0,none⟩,a1,R⟩] rfl rfl rfl rfl (oT (k0:=1) rfl aCq) ?_⟩
 refine jV tSd 4 rfl bL (bK _) bL rfl λA2 a2=>⟨_,rfl,iX tSd 3 1 [cD ⟨A2.map λb=>⟨b,0,none⟩,a2,C⟩,cD ⟨A.map λb=>⟨b,0,none⟩,a1,R⟩] rfl rfl rfl rfl (oT (k0:=0) rfl aCq) ?_⟩
 exact aA gT mxd ⟨(⟨⟨A2.map λb=>⟨b,0,none⟩,a2,C⟩,⟨A.map λb=>⟨b,0,none⟩,a1,R⟩⟩,q),⟨⟨by show C.length=_;omega,by show R.length=_;omega⟩,hq⟩,fH rfl rfl bL (aB rfl aY) rfl (eW rfl)⟩
def kvL (x:Nat->Nat) (V:Nat->CV):Nat->List CV
 |0=>[]
 |k+1=>kvL x V k++[iC (x k:Nat),V k]
section kv
variable {x:Nat->Nat} {V:Nat->CV}
theorem aKq:∀k,(kvL x V k).length=2*k
 |0=>rfl
 |k+1=>by
  have:=aKq k
  show(kvL x V k++_).length=_
  rw[aE,this];rfl
theorem aFk:∀{k i:Nat},i<k->(kvL x V k)[2*i]? =some (iC (x i:Nat))/\(kvL x V k)[2*i+1]? =some (V i)
 |0,i,h=>absurd h (aF _)
 |k+1,i,h=>by
  have hl:=aKq (x:=x) (V:=V) k
  show(kvL x V k++_)[2*i]? =_/\(kvL x V k++_)[2*i+1]? =_
  by_cases e:i<k
  ·rw[bA oM,bA oM];exact aFk e
  obtain rfl:i=k:=by omega
  rw[bR oM,bR oM,hl,jA,fX]
  exact⟨rfl,rfl⟩
theorem aBx {k i:Nat} {z:Int} {c:CV} (h1:(kvL x V k)[2*i]? =some (.v (.int .i64 z))) (h2:(kvL x V k)[2*i+1]? =some c):i<k/\z=(x i:Nat)/\c=V i:=by
 have hi:i<k:=by have:=eG h2;rw[aKq] at this;omega
 obtain⟨h3,h4⟩:=aFk (x:=x) (V:=V) hi
 rw[h3] at h1
 rw[h4] at h2
 injection h1 with h1
 injection h1 with h1
 injection h1 with _ h1
 injection h2 with h2
 exact⟨hi,h1.symm,h2.symm⟩
end kv
open Classical in
noncomputable def aGf (κ:Nat->Nat) (n:Nat) (z:Int):Option Nat:=if h:∃k,k<n/\((κ k:Nat):Int)=z then some h.choose else none
noncomputable def jI (κ:Nat->Nat) (n:Nat) (es:List En):List En:=es.filterMap λe=>(aGf κ n e.1).map λk=>((k:Int),e.2)
section cof
variable {κ:Nat->Nat} {n:Nat}
theorem aBy {z:Int} {k:Nat} (h:aGf κ n z=some k):k<n/\((κ k:Nat):Int)=z:=by
 unfold aGf at h
 split at h
 ·next hh=>injection h with h;rw[<-h];exact hh.choose_spec
 cases h
theorem aVu (hm:∀k l,k<l->l<n->κ k<κ l) {k:Nat} (hk:k<n):aGf κ n ((κ k:Nat):Int)=some k:=by
 unfold aGf
 have hh:∃l,l<n/\((κ l:Nat):Int)=((κ k:Nat):Int):=⟨k,hk,rfl⟩
 rw[dif_pos hh]
 have h1:=hh.choose_spec
 refine congrArg some ?_
 rcases eT hh.choose k with h|h|h
 ·have:=hm _ _ h hk;omega
 ·exact h
 have:=hm _ _ h h1.1;omega
theorem aYk {z:Int} (h:∀k,k<n->((κ k:Nat):Int)≠z):aGf κ n z=none:=by
 unfold aGf
 rw[dif_neg λ⟨k,hk,hh⟩=>h k hk hh]
theorem aFl {es:List En} {e:En} (h:e∈jI κ n es):∃e'∈es,∃k,k<n/\((κ k:Nat):Int)=e'.1/\e=((k:Int),e'.2):=by
 unfold jI at h
 obtain⟨e',h1,h2⟩:=List.mem_filterMap.1 h
 cases hp:aGf κ n e'.1 with
 |none=>rw[hp] at h2;cases h2
 |some k=>
  rw[hp] at h2
  injection h2 with h2
  obtain⟨h3,h4⟩:=aBy hp
  exact⟨e',h1,k,h3,h4,h2.symm⟩
theorem aOa (hm:∀k l,k<l->l<n->κ k<κ l) {es:List En} (ha:Asc es):Asc (jI κ n es):=by
 unfold jI Asc
 refine List.pairwise_filterMap.2 (List.Pairwise.imp (λ{a b} hab x hx y hy=>?_) ha)
 cases hp:aGf κ n a.1 with
 |none=>rw[hp] at hx;cases hx
 |some k=>
  cases hp2:aGf κ n b.1 with
  |none=>rw[hp2] at hy;cases hy
  |some l=>
   rw[hp] at hx
   rw[hp2] at hy
   injection hx with hx
   injection hy with hy
   obtain⟨h1,h2⟩:=aBy hp
   obtain⟨h3,h4⟩:=aBy hp2
   rw[<-hx,<-hy]
   show(k:Int)<(l:Nat)
   rcases eT k l with h|h|h
   ·omega
   ·rw[h] at h2;omega
   have:=hm _ _ h h1;omega
theorem yH (hm:∀k l,k<l->l<n->κ k<κ l) {es:List En} {c:Int} (h:VOk es c):VOk (jI κ n es) (n:Nat):=⟨aOa hm h.1,λe he=>by
 obtain⟨e',h1,k,h2,h3,rfl⟩:=aFl he
 exact⟨by show(0:Int)<=(k:Nat);omega,by show(k:Int)<(n:Nat);omega,(h.2 e' h1).2.2⟩⟩
theorem sD (hm:∀k l,k<l->l<n->κ k<κ l) {es:List En} (ha:Asc es) {k:Nat} (hk:k<n):Vm.get (jI κ n es) (k:Nat)=Vm.get es (κ k:Nat):=by
 by_cases h:∃e∈es,e.1=((κ k:Nat):Int)
 ·obtain⟨e,h1,h2⟩:=h
  have h3:((k:Int),e.2)∈jI κ n es:=List.mem_filterMap.2 ⟨e,h1,by rw[h2,aVu hm hk];rfl⟩
  have h4:=rG (aOa hm ha) h3
  rw[show Vm.get (jI κ n es) (k:Nat)=_ from h4,<-h2,rG ha h1]
 rw[Vm.get_none (a:=es) λe he h2=>h ⟨e,he,h2⟩]
 refine Vm.get_none λe he h2=>h ?_
 obtain⟨e',h1,l,h3,h4,rfl⟩:=aFl he
 have:l=k:=by have:(l:Int)=(k:Nat):=h2;omega
 exact⟨e',h1,by rw[<-h4,this]⟩
theorem aKr {es:List En} {B:Nat} (h:rbE es B):rbE (jI κ n es) B:=λe he=>by
 obtain⟨e',h1,k,_,_,rfl⟩:=aFl he
 exact h e' h1
theorem aHe {es:List En} {t:Nat} (ht:t<es.length) (h:∀k,k<n->((κ k:Nat):Int)≠(es.getD t default).1):jI κ n (es.take (t+1))=jI κ n (es.take t):=by
 rw[aBu ht]
 unfold jI
 rw[List.filterMap_append,List.filterMap_cons,aYk h]
 simp
theorem aHf (hm:∀k l,k<l->l<n->κ k<κ l) {es:List En} {t k:Nat} (ht:t<es.length) (hk:k<n) (h:(es.getD t default).1=((κ k:Nat):Int)):jI κ n (es.take (t+1))=jI κ n (es.take t)++[((k:Int),(es.getD t default).2)]:=by
 rw[aBu ht]
 unfold jI
 rw[List.filterMap_append,List.filterMap_cons,h,aVu hm hk]
 rfl
end cof
abbrev mpF (b:Nat) (G:Nat->List CV):Fam:=⟨1000002,1,1,λ_=>some b,λ_=>0,G⟩
structure CofA (p:ProgM) (rs cs:Sl Int) (ρ κ:Nat->Nat):Prop where
 r:∀k,k<rs.l.length->rs.l.getD k 0=(ρ k:Nat)/\ρ k<p.r.l.length
 c:∀k,k<cs.l.length->cs.l.getD k 0=(κ k:Nat)/\κ k<p.c.l.length
 m:∀k l,k<l->l<cs.l.length->κ k<κ l
 rl:rs.l.length<=4096
 cl:cs.l.length<=4096
abbrev cBm (p:ProgM):BL:=[(42,0,p.C),(24,0,[iC 0,iC 0,.v (.slice none 0 0)])]
abbrev cfB (p:ProgM) (a b:Nat) (H:List CV):BL:=[(42,0,p.C),(24,0,[iC 0,iC 0,.v (.slice none 0 0)]),(65,1,H),(24,0,[iC a,iC b,.s 2 a])]
theorem aFm {p:ProgM} {a b:Nat} {P:Nat->CV} (h:∀j,j<a->fK (P j)=true):scB 4 (cfB p a b (dI a P)):=aB rfl (aB rfl (aB (aV.2 λc hc=>rS (aX h c hc)) (aB rfl aY)))
abbrev cBn (rs cs:Sl Int) (b k:Nat):List (Nat×DV):=[(20,.c (iC k)),(7,.c (.v (.map (some b)))),(18,.c (cD cs)),(19,.c (iC (cs.l.length:Nat))),(3,.c (.p 0 0)),(6,.c (.p 1 0)),(1,.c (cD rs)),(2,.c (cD cs))]
abbrev bOs (rs:Sl Int) (b k:Nat):List (Nat×DV):=[(39,.c (iC k)),(7,.c (.v (.map (some b)))),(37,.c (cD rs)),(38,.c (iC (rs.l.length:Nat))),(3,.c (.p 0 0)),(6,.c (.p 1 0)),(10,.c (.p 3 0))]
abbrev bOt (p:ProgM) (rs:Sl Int) (b k i t:Nat):List (Nat×DV):=(51,.c (iC t))::(11,.c (iC k))::(49,.c (cF (p.r.l.getD i default).e))::(50,.c (iC ((p.r.l.getD i default).e.l.length:Nat)))::bOs rs b k
theorem bOu {ys:List EntM} {rs:List En} {B:Nat} {e:EntM} {r:En} (h:Ev ys rs B) (h1:e.ix=r.1) (h2:Rq e.v r.2 B):Ev (ys++[e]) (rs++[r]) B:=⟨by simp[h.ln],λk hk=>by
 rw[aE,cR] at hk
 have hl:=h.ln
 rcases eC k rs.length with h3|h3
 ·have e1:(ys++[e]).getD k default=ys.getD k default:=by simp[bA (show k<ys.length by omega)]
  have e2:(rs++[r]).getD k default=rs.getD k default:=by simp[bA h3]
  rw[e1,e2];exact h.e k h3
 obtain rfl:k=rs.length:=by omega
 have e1:(ys++[e]).getD rs.length default=e:=by rw[<-hl];simp
 have e2:(rs++[r]).getD rs.length default=r:=by simp
 rw[e1,e2];exact⟨h1,h2⟩⟩
def cMj:Ord:=.treeX [] [2000,1,2002,2003,4,2005,2006,1007,2008,2009,10,2011] (trS [12,13,2014,1015])
abbrev cBo:FuncId:=56
theorem cSy:Ent Tryz.prog cBo:=aU func56 rfl kR
theorem cSz:Tryz.prog.funcs[cBo]? =some Tryz.f56:=func56
theorem bRz (p:ProgM) (rs cs:Sl Int) {q:PrQ} {B:Nat} {ρ κ:Nat->Nat} (h:PrV p q B) (hA:CofA p rs cs ρ κ):Ctr Tryz.prog cBo [] [.a p.C,.c (cD rs),.c (cD cs)] [] (λg:MatM=>⟨.a g.C,[],Mr g (λk=>jI κ cs.l.length (q.M (ρ k))) rs.l.length cs.l.length B⟩):=by
 have hrl:=hA.rl
 have hcl:=hA.cl
 refine aW gT cSy cSz rfl rfl rfl bL aS (aA gT mxd λb=>?_)
 refine cG (λ_=>true) (λg:Nat×(Nat->List CV)=>cBn rs cs b g.1) (λ_=>cBm p) (λg=>[mpF b g.2]) (λg=>g.1<=cs.l.length/\g.2 0=kvL κ (λk=>iC (k:Nat)) g.1) (λg=>cs.l.length-g.1) λhM=>⟨bH hM (chg:=λg:Nat×(Nat->List CV)=>cBn rs cs b g.1) (bls:=λ_=>cBm p) (fls:=λg=>[mpF b g.2]) (0,λ_=>[]) ⟨aC _,rfl⟩ rfl ⟨rfl,rfl⟩ ⟨rfl,trivial⟩ ⟨rfl,rfl,rfl,rfl,rfl,rfl,rfl,rfl⟩ bL (aB rfl (aB rfl aY)) rfl,λ⟨k,G⟩ ⟨hk,hG⟩=>aA gT mxd ⟨λh1=>aA gT mxd ?_,λh1=>aA gT mxd ?_⟩⟩
 all_goals
  replace hk:k<=cs.l.length:=hk
  replace hG:G 0=kvL κ (λk=>iC (k:Nat)) k:=hG
 ·replace h1:(k:Int)<(cs.l.length:Nat):=h1
  have hkn:k<cs.l.length:=by omega
  refine⟨k,⟨rfl,hkn⟩,0,0,κ k,⟨Nat.one_pos,rfl,(hA.c k hkn).1,λi c' h2 h3=>?_⟩,(k+1:Nat),wi,bH hM (chg:=λg:Nat×(Nat->List CV)=>cBn rs cs b g.1) (bls:=λ_=>cBm p) (fls:=λg=>[mpF b g.2]) (k+1,upd G 0 (G 0++[iC (κ k:Nat),iC (k:Nat)])) ⟨⟨hkn,?_⟩,show cs.l.length-(k+1)<cs.l.length-k by omega⟩ rfl ⟨rfl,rfl⟩ ⟨rfl,trivial⟩ ⟨rfl,rfl,rfl,rfl,rfl,rfl,rfl,rfl⟩ bL (aB rfl (aB rfl aY)) rfl⟩
  ·rw[show(mpF b G).get 0=kvL κ (λk=>iC (k:Nat)) k from hG] at h2 h3
   obtain⟨h4,h5,_⟩:=aBx h2 h3
   have:=hA.m i k h4 hkn
   omega
  show upd G 0 _ 0=_
  rw[bJ,hG];rfl
 replace h1:¬(k:Int)<(cs.l.length:Nat):=h1
 obtain rfl:k=cs.l.length:=by omega
 refine aA gT mxd ⟨rs.l.length,⟨rfl,rfl,by show 24*_<=_;omega,by simp only[maxLen];omega⟩,?_⟩
 show Sd _ _ _ _ _ _
 refine aXs tSd 82 4 rs.l.length bL (gH tSd (l:=List.replicate rs.l.length (.v (.slice none 0 0))) 2 (dI rs.l.length (hdP (λ_=>none) (λ_=>0) λ_=>[])) rfl (by rw[dB,cJ]) (λk c c' h1 h2=>?_) ?_)
 ·have hk:k<rs.l.length:=by have:=eG h1;simpa using this
  have h3:=eB (P:=hdP (λ_=>none) (λ_=>0) λ_=>[]) hk
  rw[bI,h2] at h3
  injection h3 with h3
  rw[h3,(gB.1 (aR h1)).2]
  exact LeC.nilh
 refine cG (λ_=>true) (λg:Nat×(Nat->Option Nat)×(Nat->Nat)×(Nat->List EntM)=>bOs rs b g.1) (λg=>cfB p rs.l.length cs.l.length (dI rs.l.length (hdP g.2.1 g.2.2.1 g.2.2.2))) (λg=>[mpF b G,trF rs.l.length g.2.1 g.2.2.1 g.2.2.2]) (λg=>g.1<=rs.l.length/\(∀k,k<g.1->Ev (g.2.2.2 k) (jI κ cs.l.length (q.M (ρ k))) B)/\∀k,g.1<=k->g.2.2.2 k=[]) (λg=>rs.l.length-g.1) λhM=>⟨bH hM (chg:=λg:Nat×(Nat->Option Nat)×(Nat->Nat)×(Nat->List EntM)=>bOs rs b g.1) (bls:=λg=>cfB p rs.l.length cs.l.length (dI rs.l.length (hdP g.2.1 g.2.2.1 g.2.2.2))) (fls:=λg=>[mpF b G,trF rs.l.length g.2.1 g.2.2.1 g.2.2.2]) (0,λ_=>none,λ_=>0,λ_=>[]) ⟨aC _,λk hk=>absurd hk (aF _),λ_ _=>rfl⟩ rfl ⟨rfl,rfl,rfl,rfl⟩ ⟨rfl,rfl,trivial⟩ ⟨rfl,rfl,rfl,rfl,rfl,rfl,rfl⟩ bL (aFm λ_ _=>rfl) rfl,λ⟨i,A,cap,S⟩ ⟨hi,hS,hS0⟩=>aA gT mxd ⟨λh2=>aA gT mxd ?_,λh2=>aA gT mxd ?_⟩⟩
 all_goals
  replace hi:i<=rs.l.length:=hi
  replace hS:∀k,k<i->Ev (S k) (jI κ cs.l.length (q.M (ρ k))) B:=hS
  replace hS0:∀k,i<=k->S k=[]:=hS0
 ·replace h2:(i:Int)<(rs.l.length:Nat):=h2
  have hia:i<rs.l.length:=by omega
  obtain⟨r1,r2⟩:=hA.r i hia
  have hrow:=h.rd.r _ r2
  have hv:=h.v _ r2
  have hlen:=h.len r2
  have hpc:=h.c
  have hle:=hrow.e.ln
  refine⟨i,⟨rfl,hia⟩,ρ i,⟨r1,r2⟩,?_⟩
  show Sd _ _ _ _ _ _
  refine cG (λ_=>true) (λg:Nat×(Nat->Option Nat)×(Nat->Nat)×(Nat->List EntM)=>bOt p rs b i (ρ i) g.1) (λg=>cfB p rs.l.length cs.l.length (dI rs.l.length (hdP g.2.1 g.2.2.1 g.2.2.2))) (λg=>[mpF b G,trF rs.l.length g.2.1 g.2.2.1 g.2.2.2]) (λg=>g.1<=(q.M (ρ i)).length/\(∀k,k<i->Ev (g.2.2.2 k) (jI κ cs.l.length (q.M (ρ k))) B)/\Ev (g.2.2.2 i) (jI κ cs.l.length ((q.M (ρ i)).take g.1)) B/\∀k,i<k->g.2.2.2 k=[]) (λg=>(q.M (ρ i)).length-g.1) λhM2=>⟨bH hM2 (chg:=λg:Nat×(Nat->Option Nat)×(Nat->Nat)×(Nat->List EntM)=>bOt p rs b i (ρ i) g.1) (bls:=λg=>cfB p rs.l.length cs.l.length (dI rs.l.length (hdP g.2.1 g.2.2.1 g.2.2.2))) (fls:=λg=>[mpF b G,trF rs.l.length g.2.1 g.2.2.1 g.2.2.2]) (0,A,cap,S) ⟨aC _,hS,by show Ev (S i) _ B;rw[hS0 i (aI i)];exact⟨rfl,λk hk=>absurd hk (aF _)⟩,λk hk=>hS0 k (eX hk)⟩ rfl ⟨rfl,rfl,rfl,rfl⟩ ⟨rfl,rfl,trivial⟩ ⟨rfl,rfl,rfl,rfl,rfl,rfl,rfl,rfl,rfl,rfl,rfl⟩ bL (aFm λ_ _=>rfl) rfl,λ⟨t,A,cap,S⟩ ⟨ht,hS,hSi,hS0⟩=>aA gT mxd ⟨λh3=>aA gT mxd ?_,λh3=>aA gT mxd ?_⟩⟩
  all_goals
   replace ht:t<=(q.M (ρ i)).length:=ht
   replace hS:∀k,k<i->Ev (S k) (jI κ cs.l.length (q.M (ρ k))) B:=hS
   replace hSi:Ev (S i) (jI κ cs.l.length ((q.M (ρ i)).take t)) B:=hSi
   replace hS0:∀k,i<k->S k=[]:=hS0
  ·replace h3:(t:Int)<((p.r.l.getD (ρ i) default).e.l.length:Nat):=h3
   have htl:t<(q.M (ρ i)).length:=by omega
   have hte:t<(p.r.l.getD (ρ i) default).e.l.length:=by omega
   have he:=hrow.e.e t htl
   refine⟨t,⟨rfl,hte⟩,0,0,⟨Nat.one_pos,rfl⟩,λj c' h4 h5=>?_,λh4=>?_⟩
   ·rw[show(mpF b G).get 0=kvL κ (λk=>iC (k:Nat)) cs.l.length from hG] at h4 h5
    obtain⟨hj,hz,hc'⟩:=aBx h4 h5
    subst hc'
    have hcf:=aHf hA.m htl hj (he.1.symm.trans hz)
    have hci2:(dI rs.l.length (hdP A cap S))[i*1]? =some (.h (A i) (S i).length (cap i)):=eB hia
    have hSl:=hSi.ln
    have hcl2:(jI κ cs.l.length ((q.M (ρ i)).take t)).length<=t:=aJ (uB _ _) (by rw[bE];omega)
    have hcx:∀c'∈(⟨j,((p.r.l.getD (ρ i) default).e.l.getD t default).v⟩:EntM).C,fK c'=true:=λc' hc'=>by
     rcases bZ.1 hc' with rfl|hc'
     ·rfl
     exact iY _ c' hc'
    refine⟨cMj,by kernel_rfl,i,⟨rfl,hia,cQ hia⟩,_,_,⟨hci2,rfl⟩,ck rfl (ck rfl (ck rfl (ck (congrArg tP hci2) (ck rfl (ck rfl rfl))))),1,i,⟨rfl,hia,rfl,rfl,(gM _).symm,by show(S i).length+1<=maxLen;simp only[maxLen];omega,by show((S i).length+1)*64<=_;omega,hcx⟩,λA' c'=>⟨ck rfl (ck rfl (ck rfl (ck (congrArg tP hci2) (ck rfl (ck rfl rfl))))),i,⟨rfl,hia,cQ hia⟩,_,aBp (e:=⟨j,((p.r.l.getD (ρ i) default).e.l.getD t default).v⟩) hia,?_⟩⟩
    refine⟨(t+1:Nat),wi,bH hM2 (chg:=λg:Nat×(Nat->Option Nat)×(Nat->Nat)×(Nat->List EntM)=>bOt p rs b i (ρ i) g.1) (bls:=λg=>cfB p rs.l.length cs.l.length (dI rs.l.length (hdP g.2.1 g.2.2.1 g.2.2.2))) (fls:=λg=>[mpF b G,trF rs.l.length g.2.1 g.2.2.1 g.2.2.2]) (t+1,upd A i A',upd cap i c',upd S i (S i++[(⟨(j:Nat),((p.r.l.getD (ρ i) default).e.l.getD t default).v⟩:EntM)])) ⟨⟨htl,λk hk=>?_,?_,λk hk=>?_⟩,show(q.M (ρ i)).length-(t+1)<(q.M (ρ i)).length-t by omega⟩ rfl ⟨rfl,rfl,rfl,rfl⟩ ⟨rfl,aDa (T:=82) (n:=rs.l.length) (A:=upd A i A') (cap:=upd cap i c') (G:=S) (j:=i) (e:=⟨j,((p.r.l.getD (ρ i) default).e.l.getD t default).v⟩),trivial⟩ ⟨rfl,rfl,rfl,rfl,rfl,rfl,rfl,rfl,rfl,rfl,rfl⟩ bL (aFm λ_ _=>rfl) rfl⟩
    ·show Ev (upd S i _ k) _ B
     rw[bD oM];exact hS k hk
    ·show Ev (upd S i _ i) (jI κ cs.l.length ((q.M (ρ i)).take (t+1))) B
     rw[bJ,hcf];exact bOu hSi rfl he.2
    show upd S i _ k=[]
    rw[bD oM];exact hS0 k hk
   have hno:∀k,k<cs.l.length->((κ k:Nat):Int)≠((q.M (ρ i)).getD t default).1:=λk hk e=>by
    rw[show(mpF b G).get 0=kvL κ (λk=>iC (k:Nat)) cs.l.length from hG] at h4
    have h5:=aFk (x:=κ) (V:=λk=>iC (k:Nat)) hk
    exact h4 k _ (h5.1.trans (congrArg (λz=>some (iC z)) (e.trans he.1.symm))) h5.2
   refine⟨(t+1:Nat),wi,bH hM2 (chg:=λg:Nat×(Nat->Option Nat)×(Nat->Nat)×(Nat->List EntM)=>bOt p rs b i (ρ i) g.1) (bls:=λg=>cfB p rs.l.length cs.l.length (dI rs.l.length (hdP g.2.1 g.2.2.1 g.2.2.2))) (fls:=λg=>[mpF b G,trF rs.l.length g.2.1 g.2.2.1 g.2.2.2]) (t+1,A,cap,S) ⟨⟨htl,hS,?_,hS0⟩,show(q.M (ρ i)).length-(t+1)<(q.M (ρ i)).length-t by omega⟩ rfl ⟨rfl,rfl,rfl,rfl⟩ ⟨rfl,rfl,trivial⟩ ⟨rfl,rfl,rfl,rfl,rfl,rfl,rfl,rfl,rfl,rfl,rfl⟩ bL (aFm λ_ _=>rfl) rfl⟩
   show Ev (S i) (jI κ cs.l.length ((q.M (ρ i)).take (t+1))) B
   rw[aHe htl hno];exact hSi
  replace h3:¬(t:Int)<((p.r.l.getD (ρ i) default).e.l.length:Nat):=h3
  obtain rfl:t=(q.M (ρ i)).length:=by omega
  rw[cW] at hSi
  exact⟨(i+1:Nat),wi,bH hM (chg:=λg:Nat×(Nat->Option Nat)×(Nat->Nat)×(Nat->List EntM)=>bOs rs b g.1) (bls:=λg=>cfB p rs.l.length cs.l.length (dI rs.l.length (hdP g.2.1 g.2.2.1 g.2.2.2))) (fls:=λg=>[mpF b G,trF rs.l.length g.2.1 g.2.2.1 g.2.2.2]) (i+1,A,cap,S) ⟨⟨hia,λk hk=>(cN (cX hk)).elim (hS k) λe=>e▸hSi,hS0⟩,show rs.l.length-(i+1)<rs.l.length-i by omega⟩ rfl ⟨rfl,rfl,rfl,rfl⟩ ⟨rfl,rfl,trivial⟩ ⟨rfl,rfl,rfl,rfl,rfl,rfl,rfl⟩ bL (aFm λ_ _=>rfl) rfl⟩
 replace h2:¬(i:Int)<(rs.l.length:Nat):=h2
 obtain rfl:i=rs.l.length:=by omega
 have hlen:∀k,k<rs.l.length->(jI κ cs.l.length (q.M (ρ k))).length<=cs.l.length:=λk hk=>kW (yH hA.m (h.v _ (hA.r k hk).2).2)
 show Sd _ _ _ _ _ _
 refine iX tSd 2 1 (dI rs.l.length λj=>cF (hdS A cap S j)) rfl rfl rfl (by rw[dB,dB]) (aEy bRh) ?_
 refine jV tSd 2 rfl bL (aX λ_ _=>rfl) bL rfl λA2 c2=>?_
 refine iX tSd 3 2 [iC rs.l.length,iC cs.l.length,mL ⟨A2.map λb=>⟨b,0,none⟩,c2,kS (hdS A cap S) rs.l.length⟩] rfl rfl rfl rfl (vL (k0:=2) rfl vM) (aA gT mxd ⟨⟨rs.l.length,cs.l.length,⟨A2.map λb=>⟨b,0,none⟩,c2,kS (hdS A cap S) rs.l.length⟩⟩,⟨rfl,rfl,nJ,λj hj=>?_,λj hj=>⟨yH hA.m (h.v _ (hA.r j hj).2).2,hlen j hj⟩⟩,aM rfl rfl trivial⟩)
 show Ev ((kS (hdS A cap S) rs.l.length).getD j cP).l _ B
 rw[qH hj]
 exact hS j hj
inductive KpS where
 |z
 |o (b:BasM)
 |i (x:Sl Int)
 |t (x:Sl Int)
def KpS.B:KpS->BL
 |.z=>[]
 |.o b=>[(45,0,[cD b.c,cD b.r])]
 |.i x=>[(38,0,[cD x])]
 |.t x=>[(101,0,[.f 129 [] [(1,0)]]),(38,0,[cD x])]
def KpS.V:KpS->FuncId->DV
 |.z,q=> .c (.f q [] [])
 |.o _,q=> .c (.f q [] [(0,0)])
 |.i _,q=> .c (.f q [] [(0,0)])
 |.t _,q=> .c (.f q [] [(0,0)])
def KpS.A:KpS->List DV
 |.z=>[]
 |.o _=>[.c (.p 0 0)]
 |.i _=>[.c (.p 0 0)]
 |.t _=>[.c (.p 0 0)]
def KpS.m:KpS->List Nat
 |.z=>[]
 |.o _=>[0]
 |.i _=>[0]
 |.t _=>[0,1]
def KpS.cl:KpS->List Bool
 |.z=>[]
 |.o _=>[true]
 |.i _=>[true]
 |.t _=>[false,true]
def cTa (own:Bool) (y:KpS) (L:List Int) (g:Sl Int):Out:=match own with
 |true=>⟨.c (.s y.B.length L.length),y.B++[(3,1,L.map iC)],g=g⟩
 |false=>⟨.c (cD g),y.B,g.l=L⟩
abbrev aOb:FuncId:=53
theorem cTb:Ent Tryz.prog aOb:=aU func53 rfl kR
theorem cTc:Tryz.prog.funcs[aOb]? =some Tryz.f53:=func53
theorem bSa (own:Bool) (y:KpS) (q:FuncId) (n:Nat) (P:Nat->Prop) [DecidablePred P] (hn:n<=4096) (hq:∀i,i<n->Ctr Tryz.prog q y.cl (.c (iC (i:Nat))::y.A) y.B (λ_:Unit=>⟨pC (P i),y.B,True⟩)):Ctr Tryz.prog aOb y.cl [.c (iC n),y.V q] y.B (cTa own y (fR P n)):=by
 have sc:∀L:List Int,scB (y.B.length+1) (y.B++[(3,1,L.map iC)]):=λL=>by
  cases y with
  |z=>exact aB (bU (bK _)) aY
  |o b=>exact aB rfl (aB (bU (bK _)) aY)
  |i x=>exact aB rfl (aB (bU (bK _)) aY)
  |t x=>exact aB rfl (aB rfl (aB (bU (bK _)) aY))
 have sc0:scB y.B.length y.B:=by
  cases y with
  |z=>exact aY
  |o b=>exact aB rfl aY
  |i x=>exact aB rfl aY
  |t x=>exact aB rfl (aB rfl aY)
 have hcl:ClB y.cl y.B:=by
  cases y with
  |z=>exact λi T es l hi=>by cases hi
  |o b=>exact eW rfl
  |i x=>exact eW rfl
  |t x=>exact ClB.cons (λh=>by cases h) (eW rfl)
 have hcl2:∀L:List Int,ClB y.cl (y.B++[(3,1,L.map iC)]):=λL=>by
  cases y with
  |z=>exact λi T es l _ hc=>by cases hc
  |o b=>exact ClB.cons (λ_=>rfl) λi T es l _ hc=>by cases hc
  |i x=>exact ClB.cons (λ_=>rfl) λi T es l _ hc=>by cases hc
  |t x=>exact ClB.cons (λh=>by cases h) (ClB.cons (λ_=>rfl) λi T es l _ hc=>by cases hc)
 let w:KpS:=y
 cases y
 all_goals
  refine aW gT cTb cTc rfl rfl rfl bL hcl (aA gT mxd (aIp 5 3 1 rfl bL (aA gT mxd ?_)))
  refine cG (λ_=>true) (λk:Nat=>[(8,.c (iC k)),(5,.c (.s w.B.length (fR P k).length)),(7,.c (iC n)),(1,w.V q)]) (λk=>w.B++[(3,1,(fR P k).map iC)]) (λ_=>[]) (λk=>k<=n) (λk=>n-k) λhM=>⟨bH hM (chg:=λk:Nat=>[(8,.c (iC k)),(5,.c (.s w.B.length (fR P k).length)),(7,.c (iC n)),(1,w.V q)]) (bls:=λk=>w.B++[(3,1,(fR P k).map iC)]) (fls:=λ_=>[]) 0 (aC _) rfl ?_ trivial ⟨rfl,rfl,rfl,rfl⟩ bL (sc _) rfl,λk hk=>aA gT mxd ⟨λh1=>aA gT mxd ?_,λh1=>aA gT mxd ?_⟩⟩
  ·first|exact rfl|exact⟨rfl,rfl⟩|exact⟨rfl,rfl,rfl⟩
  ·replace h1:(k:Int)<(n:Nat):=h1
   have hkn:k<n:=by omega
   have hsl:=sA (P:=P) k
   have yes:P k->fR P (k+1)=fR P k++[(k:Int)]:=xI
   first
    |refine⟨[],hq k hkn,rfl,rfl,rfl,λ_ _=>⟨λh4=>aA gT mxd ?_,λh4=>aA gT mxd ?_⟩⟩
    |refine⟨_,rfl,w.m,hq k hkn,rfl,rfl,rfl,λ_ _=>⟨λh4=>aA gT mxd ?_,λh4=>aA gT mxd ?_⟩⟩
   ·have ap:=apI (x:=fR P k) (z:=(k:Nat)) (i:=w.B.length) oM
    refine⟨ap,(λc hc=>by rw[aH.1 hc];rfl),(k+1:Nat),wi,bH hM (chg:=λk:Nat=>[(8,.c (iC k)),(5,.c (.s w.B.length (fR P k).length)),(7,.c (iC n)),(1,w.V q)]) (bls:=λk=>w.B++[(3,1,(fR P k).map iC)]) (fls:=λ_=>[]) (k+1) ⟨hkn,show n-(k+1)<n-k by omega⟩ rfl ?_ trivial ⟨rfl,?_,rfl,rfl⟩ bL (sc _) rfl⟩
    ·have e:((3,1,(fR P k).map iC++[iC (k:Nat)]):TypeId×Nat×List CV)=(3,1,(fR P (k+1)).map iC):=by rw[yes h4,bG];rfl
     first|exact e|exact⟨rfl,e⟩|exact⟨rfl,rfl,e⟩
    show(fR P k).length+1=(fR P (k+1)).length
    rw[yes h4,aE];rfl
   refine⟨(k+1:Nat),wi,bH hM (chg:=λk:Nat=>[(8,.c (iC k)),(5,.c (.s w.B.length (fR P k).length)),(7,.c (iC n)),(1,w.V q)]) (bls:=λk=>w.B++[(3,1,(fR P k).map iC)]) (fls:=λ_=>[]) (k+1) ⟨hkn,show n-(k+1)<n-k by omega⟩ rfl ?_ trivial ⟨rfl,?_,rfl,rfl⟩ bL (sc _) rfl⟩
   ·have e:((3,1,(fR P k).map iC):TypeId×Nat×List CV)=(3,1,(fR P (k+1)).map iC):=by rw[tF h4]
    first|exact e|exact⟨rfl,e⟩|exact⟨rfl,rfl,e⟩
   show(fR P k).length=(fR P (k+1)).length
   rw[tF h4]
  replace h1:¬(k:Int)<(n:Nat):=h1
  obtain rfl:k=n:=by omega
  cases own
  ·refine rT 5 w.B.length (λj=>[iC ((fR P k).getD j 0)]) rfl rfl (λj hj=>nS j hj) (by rw[aN,bI]) bL (bK _) (aI _) λA c _ _=>aA gT mxd ⟨⟨A,c,fR P k⟩,rfl,fH rfl (by first|exact rfl|exact⟨rfl,rfl⟩|exact trivial) (aI _) sc0 rfl hcl⟩
  exact aA gT mxd ⟨cP,rfl,fH rfl (by first|exact rfl|exact⟨rfl,rfl⟩|exact⟨rfl,rfl,rfl⟩) (by first|exact bL|exact aC _) (sc _) rfl (hcl2 _)⟩
theorem bSb (y:KpS) (q:FuncId) (n:Nat) (P:Nat->Prop) [DecidablePred P] (hn:n<=4096) (hq:∀i,i<n->Ctr Tryz.prog q y.cl (.c (iC (i:Nat))::y.A) y.B (λ_:Unit=>⟨pC (P i),y.B,True⟩)):Ctr Tryz.prog aOb y.cl [.c (iC n),y.V q] y.B (λ_:Unit=>⟨.c (.s y.B.length (fR P n).length),y.B++[(3,1,(fR P n).map iC)],True⟩):=(bSa true y q n P hn hq).re λg hg=>⟨(),trivial,rfl,rfl,rfl⟩
theorem bSc (y:KpS) (q:FuncId) (n:Nat) (P:Nat->Prop) [DecidablePred P] (hn:n<=4096) (hq:∀i,i<n->Ctr Tryz.prog q y.cl (.c (iC (i:Nat))::y.A) y.B (λ_:Unit=>⟨pC (P i),y.B,True⟩)):Ctr Tryz.prog aOb y.cl [.c (iC n),y.V q] y.B (λg:Sl Int=>⟨.c (cD g),y.B,g.l=fR P n⟩):=(bSa false y q n P hn hq).re λg hg=>⟨g,hg,rfl,rfl,rfl⟩
/-! ### the functions -/
abbrev aVv:FuncId:=54
theorem cMk:Ent Tryz.prog aVv:=aU func54 rfl kR
theorem cMl:Tryz.prog.funcs[aVv]? =some Tryz.f54:=func54
theorem cBp (i:Int):Ctr Tryz.prog aVv [] [.c (iC i)] [] (λ_:Unit=>⟨pC True,[],True⟩):=
 aW gT cMk cMl rfl rfl rfl bL aS (aA gT mxd ⟨(),trivial,aM (tt trivial) rfl trivial⟩)
abbrev aOc:FuncId:=55
theorem cMm:Ent Tryz.prog aOc:=aU func55 rfl kR
theorem cMn:Tryz.prog.funcs[aOc]? =some Tryz.f55:=func55
theorem cBq (b:BasM) (i:Nat) (hi:i<b.c.l.length):Ctr Tryz.prog aOc [true] [.c (iC i),.c (.p 0 0)] [(45,0,[cD b.c,cD b.r])] (λ_:Unit=>⟨pC (b.c.l.getD i 0=2),[(45,0,[cD b.c,cD b.r])],True⟩):=
 aW gT cMm cMn rfl rfl rfl bL (eW rfl) (aA gT mxd ⟨i,⟨rfl,hi⟩,(),trivial,fH lF rfl bL (aB rfl aY) rfl (eW rfl)⟩)
def qJ (x:Sl Int) (i:Nat):Prop:=i<x.l.length/\x.l.getD i 0=2
abbrev aHg:FuncId:=129
theorem cMo:Ent Tryz.prog aHg:=aU func129 rfl kR
theorem cMp:Tryz.prog.funcs[aHg]? =some Tryz.f129:=func129
theorem bId (x:Sl Int) (i:Nat):Ctr Tryz.prog aHg [true] [.c (iC i),.c (.p 0 0)] [(38,0,[cD x])] (λ_:Unit=>⟨pC (qJ x i),[(38,0,[cD x])],True⟩):=
 aW gT cMo cMp rfl rfl rfl bL (eW rfl) (aA gT mxd ⟨i,λh=>⟨rfl,by replace h:(i:Int)<(x.l.length:Nat):=h;omega⟩,(),trivial,fH ⟨λh=>⟨by have h1:(i:Int)<(x.l.length:Nat):=h.1;omega,h.2⟩,λh=>⟨by show(i:Int)<(x.l.length:Nat);have:=h.1;omega,h.2⟩⟩ rfl bL (aB rfl aY) rfl (eW rfl)⟩)
abbrev aOd:FuncId:=130
theorem cMq:Ent Tryz.prog aOd:=aU func130 rfl kR
theorem cMr:Tryz.prog.funcs[aOd]? =some Tryz.f130:=func130
theorem cBr (x:Sl Int) (i:Nat):Ctr Tryz.prog aOd [false,true] [.c (iC i),.c (.p 0 0)] (KpS.t x).B (λ_:Unit=>⟨pC (¬qJ x i),(KpS.t x).B,True⟩):=
 aW gT cMq cMr rfl rfl rfl bL (ClB.cons (λh=>by cases h) (eW rfl)) (aA gT mxd ⟨_,rfl,[1],bId x i,rfl,rfl,rfl,λ_ _=>⟨(),trivial,fH lF ⟨rfl,rfl⟩ bL (aB rfl (aB rfl aY)) rfl (ClB.cons (λh=>by cases h) (eW rfl))⟩⟩)
def mM (P:Nat->Prop) [DecidablePred P]:Nat->Nat
 |0=>0
 |n+1=>mM P n+if P n then 1 else 0
section cnt
variable {P Q:Nat->Prop} [DecidablePred P] [DecidablePred Q]
theorem aKs:∀n,mM P n<=n
 |0=>aI _
 |n+1=>by
  have:=aKs n
  show mM P n+_<=_
  split<;>omega
theorem aHh (h:∀i,¬P i):∀n,mM P n=0
 |0=>rfl
 |n+1=>by
  show mM P n+_=0
  rw[aHh h n,if_neg (h n)]
theorem aOe (h:∀i,P i->Q i):∀n,mM P n<=mM Q n
 |0=>aI _
 |n+1=>by
  have:=aOe h n
  show mM P n+_<=mM Q n+_
  by_cases hp:P n
  ·rw[if_pos hp,if_pos (h n hp)];omega
  rw[if_neg hp];omega
theorem aBz {m:Nat}:∀{n:Nat},m<=n->mM P m<=mM P n
 |0,h=>by rw[Nat.le_zero.1 h];exact aI _
 |n+1,h=>by
  rcases cN h with h|rfl
  ·exact aJ (aBz (cX h)) (nM _ _)
  exact aI _
theorem aKt {m n:Nat} (hm:m<n) (h:P m):mM P m<mM P n:=by
 have h1:=aBz (P:=P) (m:=m+1) (n:=n) hm
 have h2:mM P (m+1)=mM P m+1:=by show mM P m+_=_;rw[if_pos h]
 omega
end cnt
section rk
variable (s:Nat->Nat)
theorem uO (x:Nat):∀n,mM (λk=>s k<x) n+mM (λk=>s k=x) n=mM (λk=>s k<x+1) n
 |0=>rfl
 |n+1=>by
  have:=uO x n
  show(mM _ n+_)+(mM _ n+_)=mM _ n+_
  rcases eT (s n) x with h|h|h
  ·rw[if_pos h,if_neg oM,if_pos oM];omega
  ·rw[if_neg oM,if_pos h,if_pos oM];omega
  rw[if_neg oM,if_neg oM,if_neg oM];omega
def rkN (a i:Nat):Nat:=mM (λk=>s k<s i) a+mM (λk=>s k=s i) i
theorem bIe {a i:Nat} (hi:i<a):rkN s a i<a:=by
 have h1:=aKt (P:=λk=>s k=s i) hi rfl
 have h2:=uO s (s i) a
 have h3:=aKs (P:=λk=>s k<s i+1) a
 unfold rkN;omega
theorem aKu {a i j:Nat} (hj:j<a) (hi:i<a) (h:s i<s j\/(s i=s j/\i<j)):rkN s a i<rkN s a j:=by
 rcases h with h|⟨h,h2⟩
 ·have h1:=aKt (P:=λk=>s k=s i) hi rfl
  have h2:=uO s (s i) a
  have h3:=aOe (P:=λk=>s k<s i+1) (Q:=λk=>s k<s j) (λk hk=>by omega) a
  unfold rkN;omega
 have h1:=aKt (P:=λk=>s k=s i) h2 rfl
 unfold rkN
 rw[<-h];omega
theorem aVw {a i j:Nat} (hi:i<a) (hj:j<a) (h:rkN s a i=rkN s a j):i=j:=by
 rcases eT (s i) (s j) with h1|h1|h1
 ·have:=aKu s hj hi (.inl h1);omega
 ·rcases eT i j with h2|h2|h2
  ·have:=aKu s hj hi (.inr ⟨h1,h2⟩);omega
  ·exact h2
  have:=aKu s hi hj (.inr ⟨h1.symm,h2⟩);omega
 have:=aKu s hi hj (.inl h1);omega
theorem cBs (a:Nat):PmL (nL a (rkN s a)) a:=by
 have e:∀i,i<a->(nL a (rkN s a)).getD i 0=(rkN s a i:Nat):=λi hi=>by unfold nL;simp[hi]
 exact⟨by unfold nL;simp,λi hi=>⟨rkN s a i,e i hi,bIe s hi⟩,λi j hi hj h=>by
  rw[e i hi,e j hj] at h
  exact aVw s hi hj oM⟩
end rk
def f1N (s:Nat->Nat) (i:Nat):Nat->Nat
 |0=>0
 |x+1=>mM (λk=>s k=x) i
def f2N (s:Nat->Nat) (a k x:Nat):Nat:=if x<=k then mM (λl=>s l<x) a else f1N s a x
def f3N (s:Nat->Nat) (a i x:Nat):Nat:=mM (λl=>s l<x) a+mM (λl=>s l=x) i
abbrev iR (n:Nat) (f:Nat->Nat):List CV:=dI n λj=>iC (f j:Nat)
theorem zD {n:Nat} {f:Nat->Nat}:∀c∈iR n f,fK c=true:=aX λ_ _=>rfl
abbrev aSg (m:MatM) (b:Nat) (f:Nat->Nat):BL:=[(24,0,m.C),(3,1,iR (b+2) f)]
abbrev bOv (m:MatM) (a b:Nat) (f r:Nat->Nat):BL:=[(24,0,m.C),(3,1,iR (b+2) f),(3,1,iR a r)]
theorem aKv {m:MatM} {b:Nat} {f:Nat->Nat}:scB 2 (aSg m b f):=aB rfl (aB (bU zD) aY)
theorem bIf {m:MatM} {a b:Nat} {f r:Nat->Nat}:scB 3 (bOv m a b f r):=aB rfl (aB (bU zD) (aB (bU zD) aY))
abbrev cBt (m:MatM) (b i:Nat):List (Nat×DV):=[(21,.c (iC i)),(1,.c (.p 0 0)),(3,.c (.s 1 (b+2))),(19,.c (mL m.d)),(20,.c (iC (m.d.l.length:Nat)))]
abbrev cBu (b k:Nat):List (Nat×DV):=[(37,.c (iC k)),(1,.c (.p 0 0)),(3,.c (.s 1 (b+2))),(36,.c (iC (b+1:Nat)))]
abbrev cBv (m:MatM) (a b i:Nat):List (Nat×DV):=[(58,.c (iC i)),(1,.c (.p 0 0)),(3,.c (.s 1 (b+2))),(7,.c (.s 2 a)),(56,.c (mL m.d)),(57,.c (iC (m.d.l.length:Nat)))]
theorem aKw {n j v:Nat} {f g:Nat->Nat} (h:j<n) (hg:∀i,i<n->g i=if i=j then v else f i):mD (iR n f) (j*1) [iC (v:Nat)]=iR n g/\j*1+1<=(iR n f).length:=gU h λi hi=>by
 rw[hg i hi]
 by_cases e:i=j
 ·rw[if_pos e,if_pos e]
 rw[if_neg e,if_neg e]
theorem wiN {z:Int} {n:Nat} (h:z=(n:Nat)) (hn:n<=9223372036854775807):(n:Int)=IntKind.i64.wrap z:=by
 rw[h]
 exact wi (h:=⟨rfl,by omega,by omega⟩)
theorem ziR {n:Nat} {f:Nat->Nat} {T:Nat} (h:∀x,x<n->f x=0):((T,1,List.replicate n (iC 0)):TypeId×Nat×List CV)=(T,1,iR n f):=by
 rw[rY]
 exact congrArg (λl=>((T,1,l):TypeId×Nat×List CV)) (gA λx hx=>by rw[h x hx];rfl)
def rIN (s:Nat->Nat) (a i j:Nat):Nat:=if j<i then rkN s a j else 0
structure SpF (M:Nat->List En) (a b:Nat) (d:Sl (Sl EntM)) (rs:Nat->List En) (rk:Nat->Nat):Prop where
 ln:d.l.length=b
 row:∀j,j<b->Ek (d.l.getD j cP).l (rs j)
 ok:∀j,j<b->VOk (rs j) (a:Nat)
 lt:∀i,i<a->rk i<a
 inj:∀i j,i<a->j<a->rk i=rk j->i=j
 get:∀i j,i<a->j<b->Vm.get (rs j) (rk i:Nat)=Vm.get (M i) (j:Nat)
 rb:∀B,1<=B->rbM M a B->∀j,j<b->rbE (rs j) B
abbrev cBw (a b:Nat) (P:Sl Int) (k:Nat):List (Nat×DV):=[(87,.c (iC k)),(85,.c (.s 3 b)),(86,.c (iC b)),(7,.c (cD P)),(10,.c (.p 4 0))]
abbrev bOw (m:MatM) (a b:Nat) (f:Nat->Nat) (Y:Nat->Sl EntM):BL:=[(24,0,m.C),(3,1,iR (b+2) f),(3,1,[]),(65,1,dI b λj=>cF (Y j)),(24,0,[iC b,iC a,.s 3 b])]
theorem bIg {m:MatM} {a b:Nat} {f:Nat->Nat} {Y:Nat->Sl EntM}:scB 5 (bOw m a b f Y):=aB rfl (aB (bU zD) (aB rfl (aB (bU (aX λ_ _=>rfl)) (aB rfl aY))))
abbrev cBx:FuncId:=126
theorem cTd:Ent Tryz.prog cBx:=aU func126 rfl kR
theorem cTe:Tryz.prog.funcs[cBx]? =some Tryz.f126:=func126
theorem cMs (m:MatM) {M:Nat->List En} {a b B:Nat} (h:Mr m M a b B) (hb:rbM M a B) (h1:1<=B) (hB:B<=4398046511104) (ha:a<=12) (hbn:b<=4096):Ctr Tryz.prog cBx [] [.a m.C] [] (λg:Sl (Sl EntM)×(Nat->List En)×(Nat->Nat)=>⟨.c (mL g.1),[],SpF M a b g.1 g.2.1 g.2.2⟩):=by
 obtain⟨mr,mc,md⟩:=m
 obtain rfl:mr=(a:Nat):=h.r
 obtain rfl:mc=(b:Nat):=h.c
 have hl:md.l.length=a:=h.ln
 obtain⟨s,hs⟩:∃s:Nat->Nat,s=λi=>(M i).length:=⟨_,rfl⟩
 have hsz:∀i,i<a->(md.l.getD i cP).l.length=s i:=λi hi=>by rw[hs];exact(h.row i hi).ln
 have hsb:∀i,i<a->s i<=b:=λi hi=>by rw[hs];exact(h.ok i hi).2
 have hcn:∀(P:Nat->Prop) [DecidablePred P] (i:Nat),i<=a->mM P i<=12:=λP _ i hi=>aJ (aKs i) oM
 refine aW gT cTd cTe rfl rfl rfl bL aS (aA gT mxd ⟨(b:Int)+2,wi (h:=⟨rfl,by show _<=(b:Int)+2;omega,by show(b:Int)+2<=_;omega⟩),b+2,⟨by show(b:Int)+2=(b+2:Nat);omega,by show(b:Int)+2=(b+2:Nat);omega,by show 8*_<=_;omega,by simp only[maxLen];omega⟩,?_⟩)
 refine cG (λ_=>true) (λi:Nat=>cBt ⟨a,b,md⟩ b i) (λi=>aSg ⟨a,b,md⟩ b (f1N s i)) (λ_=>[]) (λi=>i<=a) (λi=>a-i) λhM=>⟨bH hM (chg:=λi:Nat=>cBt ⟨a,b,md⟩ b i) (bls:=λi=>aSg ⟨a,b,md⟩ b (f1N s i)) (fls:=λ_=>[]) 0 (aC _) rfl ⟨rfl,?_⟩ trivial ⟨rfl,rfl,rfl,rfl,rfl⟩ bL aKv rfl,λi hi=>aA gT mxd ⟨λh2=>aA gT mxd ?_,λh2=>aA gT mxd ?_⟩⟩
 ·refine ziR λx hx=>?_
  cases x<;>rfl
 ·replace h2:(i:Int)<(md.l.length:Nat):=h2
  have hia:i<a:=by omega
  have hsi:=hsb i hia
  have hsz':=hsz i hia
  have ix:s i+1<b+2:=by omega
  have c1:=hcn (λk=>s k=s i) i hi
  refine⟨i,⟨rfl,show i<md.l.length by omega⟩,(s i+1:Nat),wiN (by show(((md.l.getD i cP).l.length:Nat):Int)+1=_;rw[hsz'];rfl) oM,s i+1,⟨rfl,ix,cQ ix⟩,_,eB ix,(f1N s i (s i+1)+1:Nat),wiN rfl (by show mM (λk=>s k=s i) i+1<=_;omega),s i+1,⟨rfl,ix,cQ ix⟩,_,aKw (v:=f1N s i (s i+1)+1) (g:=f1N s (i+1)) ix (λx hx=>?_),(i+1:Nat),wi,bH hM (chg:=λi:Nat=>cBt ⟨a,b,md⟩ b i) (bls:=λi=>aSg ⟨a,b,md⟩ b (f1N s i)) (fls:=λ_=>[]) (i+1) ⟨hia,show a-(i+1)<a-i by omega⟩ rfl ⟨rfl,rfl⟩ trivial ⟨rfl,rfl,rfl,rfl,rfl⟩ bL aKv rfl⟩
  cases x with
  |zero=>rw[if_neg oM];rfl
  |succ x=>
   show mM (λk=>s k=x) i+(if s i=x then 1 else 0)=_
   by_cases e:s i=x
   ·rw[if_pos e,if_pos oM,e];rfl
   rw[if_neg e,if_neg oM];rfl
 replace h2:¬(i:Int)<(md.l.length:Nat):=h2
 obtain rfl:i=a:=by omega
 refine aA gT mxd ⟨(b+1:Nat),wiN rfl oM,?_⟩
 refine cG (λ_=>true) (λk:Nat=>cBu b k) (λk=>aSg ⟨i,b,md⟩ b (f2N s i k)) (λ_=>[]) (λk=>k<=b+1) (λk=>b+1-k) λhM=>⟨bH hM (chg:=λk:Nat=>cBu b k) (bls:=λk=>aSg ⟨i,b,md⟩ b (f2N s i k)) (fls:=λ_=>[]) 0 (aC _) rfl ⟨rfl,?_⟩ trivial ⟨rfl,rfl,rfl,rfl⟩ bL aKv rfl,λk hk=>aA gT mxd ⟨λh3=>aA gT mxd ?_,λh3=>aA gT mxd ?_⟩⟩
 ·refine congrArg (λl=>((3,1,l):TypeId×Nat×List CV)) (gA λx hx=>?_)
  cases x with
  |zero=>show iC (0:Nat)=iC (f2N s i 0 0:Nat);unfold f2N;rw[if_pos (aI 0),aHh (λl=>by omega) i]
  |succ x=>show iC (_:Nat)=iC (f2N s i 0 (x+1):Nat);unfold f2N;rw[if_neg oM]
 ·replace h3:(k:Int)<(b+1:Nat):=h3
  have hkb:k<b+1:=by omega
  have ix:k+1<b+2:=by omega
  have ix0:k<b+2:=by omega
  have v0:f2N s i k k=mM (λl=>s l<k) i:=by unfold f2N;rw[if_pos (aI k)]
  have v1:f2N s i k (k+1)=mM (λl=>s l=k) i:=by unfold f2N;rw[if_neg oM];rfl
  have v2:f2N s i k (k+1)+f2N s i k k=mM (λl=>s l<k+1) i:=by rw[v0,v1,gP];exact uO s k i
  have v3:=hcn (λl=>s l<k+1) i (aI i)
  refine⟨.seq [(0,false),(1,false),(2,false),(3,false),(4,false),(5,false),(6,false),(7,false),(8,false),(9,false),(10,false),(11,true)],by kernel_rfl,(k+1:Nat),wiN rfl oM,k+1,⟨rfl,ix,cQ ix⟩,_,eB ix,k,⟨rfl,ix0,cQ ix0⟩,_,eB ix0,(f2N s i k (k+1)+f2N s i k k:Nat),wiN rfl oM,k+1,⟨rfl,ix,cQ ix⟩,_,aKw (v:=f2N s i k (k+1)+f2N s i k k) (g:=f2N s i (k+1)) ix (λx hx=>?_),(k+1:Nat),wi,bH hM (chg:=λk:Nat=>cBu b k) (bls:=λk=>aSg ⟨i,b,md⟩ b (f2N s i k)) (fls:=λ_=>[]) (k+1) ⟨hkb,show b+1-(k+1)<b+1-k by omega⟩ rfl ⟨rfl,rfl⟩ trivial ⟨rfl,rfl,rfl,rfl⟩ bL aKv rfl⟩
  by_cases e:x=k+1
  ·rw[if_pos e,v2,e];unfold f2N;rw[if_pos (aI _)]
  rw[if_neg e];unfold f2N
  by_cases e2:x<=k
  ·rw[if_pos e2,if_pos oM]
  rw[if_neg e2,if_neg oM]
 replace h3:¬(k:Int)<(b+1:Nat):=h3
 obtain rfl:k=b+1:=by omega
 obtain⟨a,ha'⟩:∃a,a=i:=⟨_,rfl⟩
 subst ha'
 refine aA gT mxd ⟨a,⟨rfl,rfl,by show 8*_<=_;omega,by simp only[maxLen];omega⟩,?_⟩
 refine cG (λ_=>true) (λj:Nat=>cBv ⟨a,b,md⟩ a b j) (λj=>bOv ⟨a,b,md⟩ a b (f3N s a j) (rIN s a j)) (λ_=>[]) (λj=>j<=a) (λj=>a-j) λhM=>⟨bH hM (chg:=λj:Nat=>cBv ⟨a,b,md⟩ a b j) (bls:=λj=>bOv ⟨a,b,md⟩ a b (f3N s a j) (rIN s a j)) (fls:=λ_=>[]) 0 (aC _) rfl ⟨rfl,?_,?_⟩ trivial ⟨rfl,rfl,rfl,rfl,rfl,rfl⟩ bL bIf rfl,λj hj=>aA gT mxd ⟨λh4=>aA gT mxd ?_,λh4=>aA gT mxd ?_⟩⟩
 ·refine congrArg (λl=>((3,1,l):TypeId×Nat×List CV)) (gA λx hx=>?_)
  show iC (f2N s a (b+1) x:Nat)=iC (f3N s a 0 x:Nat)
  unfold f2N f3N
  rw[if_pos oM];rfl
 ·exact ziR λx hx=>if_neg (aF _)
 ·replace h4:(j:Int)<(md.l.length:Nat):=h4
  have hja:j<a:=by omega
  have hsj:=hsb j hja
  have hsz':=hsz j hja
  have ix:s j<b+2:=by omega
  have c1:=hcn (λk=>s k<s j+1) a (aI a)
  have c2:=uO s (s j) a
  have c3:=aBz (P:=λk=>s k=s j) (eX hja)
  have hz:((((md.l.getD j cP).l.length:Nat):Int))=(s j:Nat):=by rw[hsz']
  refine⟨j,⟨rfl,show j<md.l.length by omega⟩,s j,⟨hz,ix,cQ ix⟩,_,eB ix,j,⟨rfl,hja,cQ hja⟩,_,aKw (v:=f3N s a j (s j)) (g:=rIN s a (j+1)) hja (λx hx=>?_),s j,⟨hz,ix,cQ ix⟩,_,eB ix,(f3N s a j (s j)+1:Nat),wiN rfl (by show mM _ a+mM _ j+1<=_;omega),s j,⟨hz,ix,cQ ix⟩,_,aKw (v:=f3N s a j (s j)+1) (g:=f3N s a (j+1)) ix (λx hx=>?_),(j+1:Nat),wi,bH hM (chg:=λj:Nat=>cBv ⟨a,b,md⟩ a b j) (bls:=λj=>bOv ⟨a,b,md⟩ a b (f3N s a j) (rIN s a j)) (fls:=λ_=>[]) (j+1) ⟨hja,show a-(j+1)<a-j by omega⟩ rfl ⟨rfl,rfl,rfl⟩ trivial ⟨rfl,rfl,rfl,rfl,rfl,rfl⟩ bL bIf rfl⟩
  ·unfold rIN
   by_cases e:x=j
   ·rw[if_pos e,if_pos oM,e];rfl
   rw[if_neg e]
   by_cases e2:x<j
   ·rw[if_pos e2,if_pos oM]
   rw[if_neg e2,if_neg oM]
  show mM _ a+(mM (λk=>s k=x) j+if s j=x then 1 else 0)=_
  by_cases e:x=s j
  ·rw[if_pos e,if_pos e.symm,e];rfl
  rw[if_neg e,if_neg (gE e)];rfl
 replace h4:¬(j:Int)<(md.l.length:Nat):=h4
 obtain rfl:a=j:=by omega
 have hri:iR a (rIN s a a)=iR a (rkN s a):=gA λx hx=>by unfold rIN;rw[if_pos hx]
 have hPm:PmL (nL a (rIN s a a)) a:=by
  rw[show nL a (rIN s a a)=nL a (rkN s a) from dP λx hx=>by unfold rIN;rw[if_pos (cM.1 hx)]]
  exact cBs s a
 show Sd _ _ _ _ _ _
 refine rT 7 2 (λj=>[iC ((nL a (rIN s a a)).getD j 0)]) rfl rfl (λj hj=>aVl j hj) (by rw[dB,bI]) bL zD bL λPA pc _ _=>⟨λc hc=>cY (zD c hc),aA gT mxd ⟨[],cIq _ h hB oM hbn,rfl,rfl,rfl,λT hT=>?_⟩⟩
 replace hT:∀j,j<b->Ek (T j).l (trM M a j):=hT
 obtain⟨P,hPe⟩:∃P:Sl Int,P=⟨PA,pc,nL a (rIN s a a)⟩:=⟨_,rfl⟩
 have hPs:CV.r PA a pc 1 (λj=>[iC ((nL a (rIN s a a)).getD j 0)])=cD P:=by rw[hPe];unfold cD Sl.R;rw[hPm.ln]
 have hPl:PmL P.l a:=by rw[hPe];exact hPm
 have hPat:∀i,i<a->P.l.getD i 0=(rkN s a i:Nat):=λi hi=>by rw[hPe];show(nL a (rIN s a a)).getD i 0=_;unfold nL rIN;simp[hi]
 refine cG (λ_=>true) (λg:Nat×(Nat->Sl EntM)×(Nat->List En)=>cBw a b P g.1) (λg=>bOw ⟨a,b,md⟩ a b (f3N s a a) g.2.1) (λ_=>[]) (λg=>g.1<=b/\(∀j,j<g.1->Ek (g.2.1 j).l (g.2.2 j)/\Asc (g.2.2 j)/\(g.2.2 j).Perm ((trM M a j).map (rnE P.l)))/\∀j,g.1<=j->j<b->Ek (g.2.1 j).l (trM M a j)) (λg=>b-g.1) λhM=>⟨bH hM (chg:=λg:Nat×(Nat->Sl EntM)×(Nat->List En)=>cBw a b P g.1) (bls:=λg=>bOw ⟨a,b,md⟩ a b (f3N s a a) g.2.1) (fls:=λ_=>[]) (0,T,λ_=>[]) ⟨aC _,λj hj=>absurd hj (aF _),λj _ hj=>hT j hj⟩ rfl ⟨rfl,rfl,rfl,rfl,rfl⟩ trivial ⟨rfl,rfl,rfl,hPs,rfl⟩ bL bIg rfl,λ⟨k,Y,rs⟩ ⟨hk,hd,ho⟩=>aA gT mxd ⟨λh5=>aA gT mxd ?_,λh5=>aA gT mxd ?_⟩⟩
 all_goals
  replace hk:k<=b:=hk
  replace hd:∀j,j<k->Ek (Y j).l (rs j)/\Asc (rs j)/\(rs j).Perm ((trM M a j).map (rnE P.l)):=hd
  replace ho:∀j,k<=j->j<b->Ek (Y j).l (trM M a j):=ho
 ·replace h5:(k:Int)<(b:Nat):=h5
  have hkb:k<b:=by omega
  have hv:=aBq (qs:=aGd M a k) a
  have hrt:=aKd (j:=k) h1 hb λi hi=>(h.ok i hi).1.1
  refine⟨k,⟨rfl,hkb,cQ hkb⟩,_,eB hkb,.seq [(0,false),(1,false),(2,false),(3,false),(4,false),(5,false),(6,false),(7,false),(8,false),(9,false),(10,true)],by kernel_rfl,[],bGr (Y k) P (ho k (aI k) hkb) hrt h1 hB hv.1 ha hPl,rfl,rfl,rfl,λy ⟨r,hy⟩=>⟨k,⟨rfl,hkb,cQ hkb⟩,_,gU (c:=cF y) (Q:=λj=>cF (upd Y k y j)) hkb (λj _=>?_),(k+1:Nat),wi,bH hM (chg:=λg:Nat×(Nat->Sl EntM)×(Nat->List En)=>cBw a b P g.1) (bls:=λg=>bOw ⟨a,b,md⟩ a b (f3N s a a) g.2.1) (fls:=λ_=>[]) (k+1,upd Y k y,upd rs k r) ⟨⟨hkb,λj hj=>?_,λj hj hjb=>?_⟩,show b-(k+1)<b-k by omega⟩ rfl ⟨rfl,rfl,rfl,rfl,rfl⟩ trivial ⟨rfl,rfl,rfl,rfl,rfl⟩ bL bIg rfl⟩⟩
  ·by_cases e:j=k
   ·subst e;rw[if_pos rfl,bJ]
   rw[if_neg e,bD e]
  ·show Ek (upd Y k y j).l (upd rs k r j)/\Asc (upd rs k r j)/\(upd rs k r j).Perm _
   by_cases e:j=k
   ·subst e;rw[bJ,bJ];exact hy
   rw[bD e,bD e];exact hd j (by have:j<k+1:=hj;omega)
  show Ek (upd Y k y j).l _
  have:k+1<=j:=hj
  rw[bD oM];exact ho j oM hjb
 replace h5:¬(k:Int)<(b:Nat):=h5
 obtain rfl:k=b:=by omega
 show Sd _ _ _ _ _ _
 refine jV tSd 3 rfl bL (aX λ_ _=>rfl) bL rfl λA2 c2=>⟨_,kV jN zD,_,rfl,?_⟩
 refine iX tSd 4 0 [iC k,iC a,mL ⟨A2.map λb=>⟨b,0,none⟩,c2,kS Y k⟩] rfl rfl rfl rfl (vL (k0:=2) rfl vM) (aA gT mxd ⟨(⟨A2.map λb=>⟨b,0,none⟩,c2,kS Y k⟩,rs,rkN s a),?_,aM ?_ rfl trivial⟩)
 ·have hvk:∀j,j<k->VOk (rs j) (a:Nat):=λj hj=>aRn hPl (aBq a).1 (hd j hj).2.1 (hd j hj).2.2
  refine⟨nJ,λj hj=>?_,hvk,λi hi=>bIe s hi,λi j hi hj he=>aVw s hi hj he,λi j hi hj=>?_,λB' hB1 hbB j hj e he=>?_⟩
  ·show Ek ((kS Y k).getD j cP).l _
   rw[qH hj];exact(hd j hj).1
  ·rw[Vm.get_perm (hd j hj).2.2,<-hPat i hi]
   exact(aRm (es:=trM M a j) hPl hi λe he=>⟨((aBq a).1.2 e he).1,((aBq a).1.2 e he).2.1⟩).trans (aUt hi)
  obtain⟨e',h6,rfl⟩:=cC.1 ((hd j hj).2.2.subset he)
  exact aKd hB1 hbB (λi hi=>(h.ok i hi).1.1) e' h6
 show CV.r _ _ _ _ _=_
 unfold mL Sl.R
 rw[nJ]
structure EcS (a t B:Nat) (ws:Nat->Sl EntM) (es:Nat->List En) (x:Nat->Nat):Prop where
 row:∀i,i<t->Ek (ws i).l (es i)
 ok:∀i,i<t->VOk (es i) (a:Nat)
 rb:∀i,i<t->rbE (es i) B
 ne:∀i,i<t->0<(es i).length
 ld:∀i,i<t->((es i).getD 0 default).1=(x i:Nat)
theorem aFn {es:List En} {n:Int} (h:VOk es n) (hl:0<es.length):Vm.get es (es.getD 0 default).1=(es.getD 0 default).2/\(es.getD 0 default).2≠0/\(0<=(es.getD 0 default).1/\(es.getD 0 default).1<n)/\∀z,z<(es.getD 0 default).1->Vm.get es z=0:=by
 have hm:=fO hl
 refine⟨rG h.1 hm,(h.2 _ hm).2.2,⟨(h.2 _ hm).1,(h.2 _ hm).2.1⟩,λz hz=>Vm.get_none λe he h2=>?_⟩
 cases es with
 |nil=>cases he
 |cons e0 es=>
  have h0:((e0::es).getD 0 default)=e0:=rfl
  rw[h0] at hz
  rcases bZ.1 he with rfl|h3
  ·omega
  have:=(sL.1 h.1).1 e h3;omega
theorem bIh {r w rs:List En} {n:Int} (hr:VOk r n) (hrl:0<r.length) (hw:VOk w n) (hwl:0<w.length) (hx:(w.getD 0 default).1=(r.getD 0 default).1) (hm:MgR (λa b=>a+ -((r.getD 0 default).2/(w.getD 0 default).2)*b) r w rs):VOk rs n/\∀e∈rs,(r.getD 0 default).1<e.1:=by
 have hv:=aRj hm hr hw
 refine⟨hv,λe he=>aT λhn=>?_⟩
 have h1:=rG hv.1 he
 have h2:=(hv.2 e he).2.2
 obtain⟨r1,r2,_,r4⟩:=aFn hr hrl
 obtain⟨w1,w2,_,w4⟩:=aFn hw hwl
 have hg:=hm.g e.1
 rw[h1] at hg
 refine h2 (hg.trans ?_)
 show Vm.get r e.1+ -((r.getD 0 default).2/(w.getD 0 default).2)*Vm.get w e.1=0
 rcases Int.lt_or_eq_of_le (pQ.1 hn) with h3|h3
 ·rw[r4 _ h3,w4 _ (by rw[hx];exact h3),cA,bP]
 rw[h3,r1,<-hx,w1]
 have:-((r.getD 0 default).2/(w.getD 0 default).2)*(w.getD 0 default).2=-((r.getD 0 default).2/(w.getD 0 default).2*(w.getD 0 default).2):=by grind
 rw[this,sR w2];grind
theorem cBy {q:Rat} {B:Nat} (h1:1<=B) (h:rb q B):rb q⁻¹ B:=by
 have e1:=aBc (a:=(q.den:Int)) (b:=q.num)
 have e2:=aBd (a:=(q.den:Int)) (b:=q.num)
 rw[<-Rat.inv_def] at e1 e2
 simp only[fD,eP] at e1 e2
 exact⟨aJ e1 h.2,by have:=h.1;omega⟩
structure RdG where
 v:Sl EntM
 r:List En
 c:Nat
 cf:Nat->Rat
structure RdI (a t B:Nat) (es:Nat->List En) (v0:List En) (g:RdG):Prop where
 v:Ek g.v.l g.r
 ok:VOk g.r (a:Nat)
 c:g.c<=a
 lo:∀e∈g.r,(g.c:Int)<=e.1
 rb:rbE g.r (bd B g.c)
 sum:∀z,Vm.get g.r z=Vm.get v0 z+cI (λk=>Vm.get (es k) z*g.cf k) t
def cTf:Ord:=.joinX [] [2000,2001,2002,3,2004,2005,2006,7] (.alt 8 (trS [2009,2010,2011,12,1013,2014]) (.alt 12 (trS [8,2009,2010,2011,1013,2014]) .nil))
abbrev rdS (b:Nat) (v:Sl EntM):List (Nat×DV):=[(1,.c (cF v)),(0,.c (.v (.map (some b))))]
abbrev cBz:FuncId:=127
theorem cTg:Ent Tryz.prog cBz:=aU func127 rfl kR
theorem cTh:Tryz.prog.funcs[cBz]? =some Tryz.f127:=func127
theorem cMt (b:Nat) (G:Nat->List CV) (v:Sl EntM) {a t B:Nat} {ws:Nat->Sl EntM} {es:Nat->List En} {x:Nat->Nat} {v0:List En} (hG:G 0=kvL x (λi=>cF (ws i)) t) (h:EcS a t B ws es x) (hv:Ek v.l v0) (hv0:VOk v0 (a:Nat)) (hb:rbE v0 B) (h1:1<=B) (hB:bd B a<=4398046511104) (ha:a<=4096):CtrF Tryz.prog cBz [] [.c (.v (.map (some b))),.c (cF v)] [] [mpF b G] (λg:RdG=>⟨.c (cF g.v),[],[mpF b G],RdI a t B es v0 g/\(g.r=[]\/∀i,i<t->((x i:Nat):Int)≠(g.r.getD 0 default).1)⟩):=by
 have hB0:B<=4398046511104:=aJ (kT (aC a)) hB
 refine nX gT cTg cTh rfl rfl rfl bL aS (aA gT mxd ?_)
 refine cG (λ_=>true) (λg:RdG=>rdS b g.v) (λ_=>[]) (λ_=>[mpF b G]) (λg=>RdI a t B es v0 g) (λg=>a+1-g.c) λhM=>⟨bH hM (chg:=λg:RdG=>rdS b g.v) (bls:=λ_=>[]) (fls:=λ_=>[mpF b G]) ⟨v,v0,0,λ_=>0⟩ ⟨hv,hv0,aC _,λe he=>(hv0.2 e he).1,hb,λz=>?_⟩ rfl trivial ⟨rfl,trivial⟩ ⟨rfl,rfl⟩ bL aY rfl,λg hI=>aA gT mxd ⟨λh2=>aA gT mxd ?_,λh2=>aA gT mxd ?_⟩⟩
 ·rw[fQ λk _=>cA _,bP]
 ·replace h2:(0:Int)<(g.v.l.length:Nat):=h2
  have hln:=hI.v.ln
  have hrl:0<g.r.length:=by omega
  obtain⟨r1,r2,r3,r4⟩:=aFn hI.ok hrl
  have hi0:=(hI.v.e 0 hrl)
  refine⟨0,⟨rfl,by omega⟩,0,0,⟨Nat.one_pos,rfl⟩,λi c' h4 h5=>?_,λh4=>?_⟩
  ·rw[show(mpF b G).get 0=kvL x (λi=>cF (ws i)) t from hG] at h4 h5
   obtain⟨hit,hz,hc'⟩:=aBx h4 h5
   subst hc'
   have hw:=h.row i hit
   have hwo:=h.ok i hit
   have hwl:=h.ne i hit
   have hwn:=hw.ln
   obtain⟨w1,w2,w3,w4⟩:=aFn hwo hwl
   have hj0:=hw.e 0 hwl
   have hlx:((es i).getD 0 default).1=(g.r.getD 0 default).1:=by rw[h.ld i hit,<-hz];exact hi0.1
   have hca:g.c<a:=by have:=hI.lo _ (fO hrl);omega
   have hbc:bd B (g.c+1)<=4398046511104:=aJ (kT hca) hB
   have hbs:bd B (g.c+1)=4*bd B g.c+1:=rfl
   have hb0:B<=bd B g.c:=kT (aC _)
   have hb1:=vP h1 g.c
   have h1':1<=bd B g.c:=hb1
   have rv:=hI.rb _ (fO hrl)
   have rw':=(h.rb i hit _ (fO hwl)).le hb0
   have rf:rb ((g.r.getD 0 default).2/((es i).getD 0 default).2) (bd B g.c+bd B g.c):=by rw[kN];exact gY rv (cBy h1' rw')
   have hwE:Ev (ws i).l (es i) (bd B g.c):=hw.ev λe he=>(h.rb i hit e he).le hb0
   have hwR:rbE (es i) (bd B g.c):=λe he=>(h.rb i hit e he).le hb0
   have hvE:=hI.v.ev hI.rb
   have hlr:=kW hI.ok
   have hlw:=kW hwo
   have hdv:=aQx (g.v.l.getD 0 default).v ((ws i).l.getD 0 default).v (Cr.rq hi0.2 (rv.le oM)) (Cr.rq hj0.2 (rw'.le oM)) w2
   refine⟨cTf,by kernel_rfl,RatM,λf=>⟨[(5,.c (cF (ws i))),(7,.c (.p 0 0)),(1,.c (cF g.v)),(0,.c (.v (.map (some b))))]++[],[],[(62,0,f.C)],[mpF b G]⟩,λf=>Cr f ((g.r.getD 0 default).2/((es i).getD 0 default).2),⟨0,⟨rfl,by omega⟩,0,⟨rfl,by omega⟩,?_⟩,λf hf=>?_⟩
   ·exact⟨⟨[],hdv,rfl,rfl,rfl,λf hf=>⟨rfl,rfl,bH hM (chg:=λ_:RatM=>[(5,.c (cF (ws i))),(7,.c (.p 0 0)),(1,.c (cF g.v)),(0,.c (.v (.map (some b))))]) (bls:=λf=>[(62,0,f.C)]) (fls:=λ_=>[mpF b G]) f hf rfl rfl ⟨rfl,trivial⟩ ⟨rfl,rfl,rfl,rfl⟩ bL (aB rfl aY) rfl⟩⟩,rfl,[],hdv,rfl,rfl,rfl,λf hf=>⟨rfl,bH hM (chg:=λ_:RatM=>[(5,.c (cF (ws i))),(7,.c (.p 0 0)),(1,.c (cF g.v)),(0,.c (.v (.map (some b))))]) (bls:=λf=>[(62,0,f.C)]) (fls:=λ_=>[mpF b G]) f hf rfl rfl ⟨rfl,trivial⟩ ⟨rfl,rfl,rfl,rfl⟩ bL (aB rfl aY) rfl⟩⟩
   replace hf:Cr f ((g.r.getD 0 default).2/((es i).getD 0 default).2):=hf
   refine⟨[],bDy f (Cr.rq hf (rf.le oM)),rfl,rfl,rfl,λn hn=>⟨[],bEq g.v (ws i) n hvE hwE hI.rb hwR hb1 (Cr.rq hn (xA rf)) (xA rf) oM hI.ok.1 hwo.1 oM oM,rfl,rfl,rfl,λy ⟨rs,hy,hm⟩=>bH hM (chg:=λg:RdG=>rdS b g.v) (bls:=λ_=>[]) (fls:=λ_=>[mpF b G]) ⟨y,rs,g.c+1,upd g.cf i (g.cf i+ -((g.r.getD 0 default).2/((es i).getD 0 default).2))⟩ ⟨?_,show a+1-(g.c+1)<a+1-g.c by omega⟩ rfl trivial ⟨rfl,trivial⟩ ⟨rfl,rfl⟩ bL aY rfl⟩⟩
   obtain⟨s1,s2⟩:=bIh hI.ok hrl hwo hwl hlx hm
   refine⟨hy,s1,hca,λe he=>?_,λe he=>?_,λz=>?_⟩
   ·have:=s2 e he
    have:=hI.lo _ (fO hrl)
    show((g.c+1:Nat):Int)<=e.1
    omega
   ·exact(bRm hm hI.ok.1 hwo.1 hb1 hI.rb hwR (xA rf) e he).le (by show _<=bd B (g.c+1);omega)
   rw[hm.g z,hI.sum z,aFf hit]
   grind
  rw[show(mpF b G).get 0=kvL x (λi=>cF (ws i)) t from hG] at h4
  refine aA gT mxd ⟨g,⟨hI,.inr λi hi e=>?_⟩,kG rfl trivial ⟨rfl,trivial⟩ bL aY rfl aS⟩
  have h5:=aFk (x:=x) (V:=λi=>cF (ws i)) hi
  exact h4 i _ (h5.1.trans (congrArg (λz=>some (iC z)) (e.trans hi0.1.symm))) h5.2
 replace h2:¬(0:Int)<(g.v.l.length:Nat):=h2
 have hln:=hI.v.ln
 have hr0:g.r=[]:=bQ oM
 exact aA gT mxd ⟨g,⟨hI,.inl hr0⟩,kG rfl trivial ⟨rfl,trivial⟩ bL aY rfl aS⟩
theorem cCa (Q:Nat->Nat->Rat) (r c:Nat):∃E t pv,Ech Q E r c c t pv:=by
 have h:∀C,C<=c->∃E t pv,Ech Q E r c C t pv:=λC=>by
  induction C with
  |zero=>exact λ_=>⟨Q,0,λ_=>0,Ech.start _⟩
  |succ C ih=>
   intro hC
   obtain⟨E,t,pv,h⟩:=ih oM
   by_cases hk:∃k,t<=k/\k<r/\E k C≠0
   ·obtain⟨k,h1,h2,h3⟩:=hk
    exact⟨_,_,_,h.step h1 h2 h3⟩
   exact⟨E,t,pv,h.skip λi h1 h2=>aT λh3=>hk ⟨i,h1,h2,h3⟩⟩
 exact h c (aI c)
theorem aSh (Q:Nat->Nat->Rat) {r c:Nat} (h:r<c):∃x:Nat->Rat,(∃i,i<c/\x i≠0)/\Nul Q r c x:=by
 obtain⟨E,t,pv,he⟩:=cCa Q r c
 have:=he.tr
 exact aT λhn=>absurd (he.full.2 hn) oM
def Free (Q:Nat->Nat->Rat) (r c:Nat):Prop:=∀x,Nul Q r c x->∀i,i<c->x i=0
theorem Free.le {Q:Nat->Nat->Rat} {r c:Nat} (h:Free Q r c):c<=r:=aT λhn=>by
 obtain⟨x,⟨i,hi,hx⟩,h3⟩:=aSh Q (r:=r) (c:=c) oM
 exact hx (h x h3 i hi)
def Dep (Q:Nat->Nat->Rat) (r c j:Nat):Prop:=∃x:Nat->Rat,x j=1/\(∀i,j<i->x i=0)/\Nul Q r c x
structure Enm (P:Nat->Prop) (n m:Nat) (e:Nat->Nat):Prop where
 lt:∀k,k<m->e k<n
 mono:∀k l,k<l->l<m->e k<e l
 mem:∀k,k<m->P (e k)
 all:∀j,j<n->P j->∃k,k<m/\e k=j
theorem Enm.inj {P:Nat->Prop} {n m:Nat} {e:Nat->Nat} (h:Enm P n m e) {k l:Nat} (hk:k<m) (hl:l<m) (he:e k=e l):k=l:=by
 rcases eT k l with h1|h1|h1
 ·have:=h.mono k l h1 hl;omega
 ·exact h1
 have:=h.mono l k h1 hk;omega
def spr (m:Nat) (e:Nat->Nat) (y:Nat->Rat) (j:Nat):Rat:=cI (λl=>if e l=j then y l else 0) m
theorem yI {m c:Nat} {e:Nat->Nat} {y f:Nat->Rat} (he:∀k,k<m->e k<c):cI (λj=>f j*spr m e y j) c=cI (λl=>f (e l)*y l) m:=by
 have h1:cI (λj=>f j*spr m e y j) c=cI (λj=>cI (λl=>f j*(if e l=j then y l else 0)) m) c:=bM λj _=>kK.symm
 rw[h1,rP]
 refine bM λl hl=>?_
 rw[jO (m:=e l) (he l hl) λj hj=>by rw[if_neg (gE hj),cA],if_pos rfl]
theorem aFo {m:Nat} {e:Nat->Nat} {y:Nat->Rat} {k:Nat} (hk:k<m) (hi:∀l,l<m->e l=e k->l=k):spr m e y (e k)=y k:=by
 unfold spr
 have h1:cI (λl=>if e l=e k then y l else 0) m=cI (λl=>if l=k then y l else 0) m:=bM λl hl=>by
  by_cases h:e l=e k
  ·rw[if_pos h,if_pos (hi l hl h)]
  rw[if_neg h,if_neg λhh=>h (by rw[hh])]
 rw[h1,jO (m:=k) hk λj hj=>if_neg hj,if_pos rfl]
theorem aKx {m:Nat} {e:Nat->Nat} {y:Nat->Rat} {j:Nat} (h:∀l,l<m->e l=j->y l=0):spr m e y j=0:=fQ λl hl=>by
 by_cases h1:e l=j
 ·rw[if_pos h1];exact h l hl h1
 rw[if_neg h1]
theorem aVx {y:Nat->Rat}:∀{m:Nat},(∃k,k<m/\y k≠0)->∃k,k<m/\y k≠0/\∀l,k<l->l<m->y l=0
 |0,⟨k,hk,_⟩=>absurd hk (aF _)
 |m+1,⟨k,hk,hy⟩=>by
  by_cases h:y m=0
  ·have hkm:k<m:=by
    rcases cN (cX hk) with h1|h1
    ·exact h1
    rw[h1] at hy;exact absurd h hy
   obtain⟨k',h1,h2,h3⟩:=aVx ⟨k,hkm,hy⟩
   refine⟨k',by omega,h2,λl hl hlm=>?_⟩
   rcases cN (cX hlm) with h4|h4
   ·exact h3 l hl h4
   rw[h4];exact h
  exact⟨m,bF m,h,λl hl hlm=>by omega⟩
theorem cCb {Q:Nat->Nat->Rat} {r c m k:Nat} {e:Nat->Nat} {y:Nat->Rat} (he:∀k,k<m->e k<c) (hk:k<m) (hy:y k≠0) (hl:∀l,l<m->l≠k->y l≠0->e l<e k) (hi:∀l,l<m->e l=e k->l=k) (h:Nul (λi l=>Q i (e l)) r m y):Dep Q r c (e k):=by
 refine⟨spr m e λl=>(y k)⁻¹*y l,?_,λj hj=>aKx λl hlm hle=>?_,λi hir=>?_⟩
 ·rw[aFo hk hi];exact jU _ hy
 ·by_cases h0:y l=0
  ·rw[h0,cA]
  by_cases h1:l=k
  ·subst h1;omega
  have:=hl l hlm h1 h0;omega
 rw[yI he]
 have h1:cI (λl=>Q i (e l)*((y k)⁻¹*y l)) m=(y k)⁻¹*cI (λl=>Q i (e l)*y l) m:=by
  rw[<-kK];exact bM λl _=>by grind
 rw[h1,h i hir,cA]
theorem Enm.free {Q:Nat->Nat->Rat} {r c m:Nat} {e:Nat->Nat} (h:Enm (λj=>¬Dep Q r c j) c m e):Free (λi k=>Q i (e k)) r m:=λy hy=>aT λhn=>by
 have hex:∃k,k<m/\y k≠0:=aT λh1=>hn λk hk=>aT λh2=>h1 ⟨k,hk,h2⟩
 obtain⟨k,h1,h2,h3⟩:=aVx hex
 refine h.mem k h1 (cCb h.lt h1 h2 (λl hl hlk hyl=>?_) (λl hl he=>h.inj hl h1 he) hy)
 rcases eT l k with h4|h4|h4
 ·exact h.mono l k h4 h1
 ·exact absurd h4 hlk
 exact absurd (h3 l h4 hl) hyl
theorem Enm.span {B:Nat->Nat->Rat} {m R t:Nat} {K:Nat->Nat} (h:Enm (λi=>¬Dep B m R i) R t K) {x:Nat->Rat} (hx:∀k,k<t->cI (λb=>B b (K k)*x b) m=0):∀i,i<R->cI (λb=>B b i*x b) m=0:=λi=>by
 induction i using Nat.strongRecOn with
 |ind i ih=>
  intro hi
  by_cases hd:Dep B m R i
  ·obtain⟨y,h1,h2,h3⟩:=hd
   have e1:cI (λl=>y l*cI (λb=>B b l*x b) m) R=0:=by
    have e2:cI (λl=>y l*cI (λb=>B b l*x b) m) R=cI (λl=>cI (λb=>y l*(B b l*x b)) m) R:=bM λl _=>kK.symm
    rw[e2,rP]
    refine fQ λb hb=>?_
    have e3:cI (λl=>y l*(B b l*x b)) R=x b*cI (λl=>B b l*y l) R:=by
     rw[<-kK];exact bM λl _=>by grind
    rw[e3,h3 b hb,cA]
   have e4:cI (λl=>y l*cI (λb=>B b l*x b) m) R=cI (λl=>if l=i then cI (λb=>B b l*x b) m else 0) R:=bM λl hl=>by
    rcases eT l i with h4|h4|h4
    ·rw[ih l h4 hl,if_neg oM,cA]
    ·rw[if_pos h4,h4,h1,iU]
    rw[h2 l h4,if_neg oM,dQ]
   rw[e4,jO (m:=i) hi λj hj=>if_neg hj,if_pos rfl] at e1
   exact e1
  obtain⟨k,hk,rfl⟩:=h.all i hi hd
  exact hx k hk
theorem Enm.square {B:Nat->Nat->Rat} {m R t:Nat} {K:Nat->Nat} (h:Enm (λi=>¬Dep B m R i) R t K) (hf:Free (λi b=>B b i) R m):t=m/\Free (λk b=>B b (K k)) t m:=by
 have h1:Free (λk b=>B b (K k)) t m:=λx hx=>hf x λi hi=>h.span hx i hi
 have h2:=h1.le
 have h3:=h.free.le
 exact⟨by omega,h1⟩
theorem Free.tr {S:Nat->Nat->Rat} {n:Nat} (h:Free S n n):Free (λi j=>S j i) n n:=λy hy k hk=>aT λhyk=>by
 obtain⟨n,rfl⟩:∃n',n=n'+1:=⟨n-1,by omega⟩
 obtain⟨x,⟨i,hi,hxi⟩,h3⟩:=aSh (λi=>S (skp k i)) (bF n)
 have hall:Nul S (n+1) (n+1) x:=by
  have e1:cI (λl=>y l*cI (λj=>S l j*x j) (n+1)) (n+1)=0:=by
   have e2:cI (λl=>y l*cI (λj=>S l j*x j) (n+1)) (n+1)=cI (λl=>cI (λj=>y l*(S l j*x j)) (n+1)) (n+1):=bM λl _=>kK.symm
   rw[e2,rP]
   refine fQ λj hj=>?_
   have e3:cI (λl=>y l*(S l j*x j)) (n+1)=x j*cI (λl=>S l j*y l) (n+1):=by
    rw[<-kK];exact bM λl _=>by grind
   rw[e3,hy j hj,cA]
  rw[xG hk] at e1
  rw[fQ (n:=n) λl hl=>by rw[h3 l hl,cA],bP] at e1
  have e5:cI (λj=>S k j*x j) (n+1)=0:=by
   rcases qV.1 e1 with h4|h4
   ·exact absurd h4 hyk
   exact h4
  intro l hl
  by_cases hlk:l=k
  ·rw[hlk];exact e5
  have:∃l',l'<n/\skp k l'=l:=by
   unfold skp
   by_cases h5:l<k
   ·exact⟨l,by omega,by split<;>omega⟩
   exact⟨l-1,by omega,by split<;>omega⟩
  obtain⟨l',h5,rfl⟩:=this
  exact h3 l' h5
 exact hxi (h x hall i hi)
theorem aYl {Q:Nat->Nat->Rat} {r m:Nat} {R0:Nat->Nat} (hR:∀k,k<m->R0 k<r) (h:Free (λk b=>Q (R0 k) b) m m):Free Q r m:=λx hx=>h x λk hk=>hx _ (hR k hk)
structure IdS (Q:Nat->Nat->Rat) (a b j t:Nat) (W:Nat->Nat->Rat) (x:Nat->Nat):Prop where
 lt:∀i,i<t->x i<a
 nz:∀i,i<t->W i (x i)≠0
 z:∀i,i<t->∀z,z<x i->W i z=0
 inj:∀i k,i<t->k<t->x i=x k->i=k
 A:∀i,i<t->∃y:Nat->Rat,(∀l,j<=l->y l=0)/\∀z,z<a->W i z=cI (λl=>Q z l*y l) b
 B:∀l,l<j->∃c:Nat->Rat,∀z,z<a->Q z l=cI (λi=>W i z*c i) t
theorem IdS.start {Q:Nat->Nat->Rat} {a b:Nat} {W:Nat->Nat->Rat} {x:Nat->Nat}:IdS Q a b 0 0 W x:=⟨λ_ h=>absurd h (aF _),λ_ h=>absurd h (aF _),λ_ h=>absurd h (aF _),λ_ _ h=>absurd h (aF _),λ_ h=>absurd h (aF _),λ_ h=>absurd h (aF _)⟩
section ids
variable {Q:Nat->Nat->Rat} {a b j t:Nat} {W:Nat->Nat->Rat} {x:Nat->Nat} (h:IdS Q a b j t W x)
include h in
theorem IdS.comb (c:Nat->Rat):∃y:Nat->Rat,(∀l,j<=l->y l=0)/\∀z,z<a->cI (λi=>W i z*c i) t=cI (λl=>Q z l*y l) b:=by
 have key:∀s,s<=t->∃y:Nat->Rat,(∀l,j<=l->y l=0)/\∀z,z<a->cI (λi=>W i z*c i) s=cI (λl=>Q z l*y l) b:=λs=>by
  induction s with
  |zero=>exact λ_=>⟨λ_=>0,λ_ _=>rfl,λz _=>(fQ λl _=>cA _).symm⟩
  |succ s ih=>
   intro hs
   obtain⟨y,h1,h2⟩:=ih oM
   obtain⟨y',h3,h4⟩:=h.A s oM
   refine⟨λl=>y l+c s*y' l,λl hl=>by show y l+c s*y' l=0;rw[h1 l hl,h3 l hl,cA,bP],λz hz=>?_⟩
   show cI (λi=>W i z*c i) s+W s z*c s=_
   rw[h2 z hz,h4 z hz]
   have e:cI (λl=>Q z l*(y l+c s*y' l)) b=cI (λl=>Q z l*y l+c s*(Q z l*y' l)) b:=bM λl _=>by grind
   rw[e,kJ];grind
 exact key t (aI t)
include h in
theorem IdS.lead {r:Nat->Rat} {c:Nat->Rat} {z0:Nat} (hr:∀z,z<a->r z=cI (λi=>W i z*c i) t) (h0:z0<a) (hn:r z0≠0) (hz:∀z,z<z0->r z=0):∃i,i<t/\x i=z0:=by
 have hex:∃i,i<t/\c i≠0:=aT λhno=>hn (by
  rw[hr z0 h0]
  refine fQ λi hi=>?_
  rw[aT λhc=>hno ⟨i,hi,hc⟩,cA])
 have hmin:∀n,(∃i,i<t/\c i≠0/\x i<n)->∃i,i<t/\c i≠0/\∀k,k<t->c k≠0->x i<=x k:=λn=>by
  induction n with
  |zero=>exact λ⟨i,_,_,h3⟩=>absurd h3 (aF _)
  |succ n ih=>
   rintro⟨i,h1,h2,h3⟩
   by_cases e:∃k,k<t/\c k≠0/\x k<n
   ·exact ih e
   exact⟨i,h1,h2,λk hk hck=>aT λhlt=>e ⟨k,hk,hck,by omega⟩⟩
 obtain⟨i,hi,hci,hm⟩:=hmin a (by obtain⟨i,h1,h2⟩:=hex;exact⟨i,h1,h2,h.lt i h1⟩)
 have hxi:=h.lt i hi
 have e1:r (x i)=W i (x i)*c i:=by
  rw[hr _ hxi]
  have e:cI (λk=>W k (x i)*c k) t=cI (λk=>if k=i then W i (x i)*c i else 0) t:=bM λk hk=>by
   by_cases e1:k=i
   ·rw[if_pos e1,e1]
   rw[if_neg e1]
   by_cases e2:c k=0
   ·rw[e2,cA]
   have h5:=hm k hk e2
   have h6:x i≠x k:=λe3=>e1 (h.inj i k hi hk e3).symm
   rw[h.z k hk (x i) oM,dQ]
  rw[e,jO (m:=i) hi λk hk=>if_neg hk,if_pos rfl]
 have e2:r (x i)≠0:=by
  rw[e1]
  intro h5
  rcases qV.1 h5 with h6|h6
  ·exact h.nz i hi h6
  exact hci h6
 have e3:∀z,z<x i->r z=0:=λz hzx=>by
  rw[hr z oM]
  refine fQ λk hk=>?_
  by_cases e4:c k=0
  ·rw[e4,cA]
  have:=hm k hk e4
  rw[h.z k hk z oM,dQ]
 refine⟨i,hi,?_⟩
 rcases eT (x i) z0 with h5|h5|h5
 ·exact absurd (hz _ h5) e2
 ·exact h5
 exact absurd (e3 _ h5) hn
include h in
theorem IdS.no {r:Nat->Rat} {c:Nat->Rat} (hj:j<b) (hr:∀z,z<a->r z=Q z j+cI (λi=>W i z*c i) t) (h0:∀z,z<a->r z=0):Dep Q a b j/\IdS Q a b (j+1) t W x:=by
 obtain⟨y,h1,h2⟩:=h.comb c
 constructor
 ·refine⟨λl=>y l+(if l=j then 1 else 0),by show y j+_=1;rw[h1 j (aI j),if_pos rfl];grind,λl hl=>by show y l+_=0;rw[h1 l (eX hl),if_neg oM];grind,λz hz=>?_⟩
  have e:cI (λl=>Q z l*(y l+(if l=j then 1 else 0))) b=cI (λl=>Q z l*y l+1*(Q z l*(if l=j then 1 else 0))) b:=bM λl _=>by grind
  rw[e,kJ,<-h2 z hz,jO (m:=j) hj λl hl=>by rw[if_neg hl,cA],if_pos rfl]
  have:=hr z hz
  rw[h0 z hz] at this
  grind
 refine⟨h.lt,h.nz,h.z,h.inj,λi hi=>?_,λl hl=>?_⟩
 ·obtain⟨y,h3,h4⟩:=h.A i hi
  exact⟨y,λl hl=>h3 l oM,h4⟩
 by_cases e:l=j
 ·subst e
  refine⟨λi=>-c i,λz hz=>?_⟩
  have e2:cI (λi=>W i z* -c i) t=-1*cI (λi=>W i z*c i) t:=by rw[<-kK];exact bM λi _=>by grind
  have:=hr z hz
  rw[h0 z hz] at this
  rw[e2];grind
 exact h.B l oM
include h in
theorem IdS.yes {r:Nat->Rat} {c:Nat->Rat} {z0:Nat} (hj:j<b) (hr:∀z,z<a->r z=Q z j+cI (λi=>W i z*c i) t) (h0:z0<a) (hn:r z0≠0) (hz:∀z,z<z0->r z=0) (hx:∀i,i<t->x i≠z0):¬Dep Q a b j/\IdS Q a b (j+1) (t+1) (upd W t r) (upd x t z0):=by
 have sw:∀(f:Nat->Rat) (z:Nat),cI (λi=>upd W t r i z*f i) (t+1)=cI (λi=>W i z*f i) t+r z*f t:=λf z=>by
  show cI _ t+upd W t r t z*f t=_
  rw[bJ,bM (g:=λi=>W i z*f i) λi hi=>by rw[bD oM]]
 constructor
 ·rintro⟨y,h1,h2,h3⟩
  have key:∀s,s<=j->∃d:Nat->Rat,∀z,z<a->cI (λl=>Q z l*y l) s=cI (λi=>W i z*d i) t:=λs=>by
   induction s with
   |zero=>exact λ_=>⟨λ_=>0,λz _=>(fQ λi _=>cA _).symm⟩
   |succ s ih=>
    intro hs
    obtain⟨d,h4⟩:=ih oM
    obtain⟨d',h5⟩:=h.B s oM
    refine⟨λi=>d i+y s*d' i,λz hz=>?_⟩
    show cI (λl=>Q z l*y l) s+Q z s*y s=_
    have e:cI (λi=>W i z*(d i+y s*d' i)) t=cI (λi=>W i z*d i+y s*(W i z*d' i)) t:=bM λi _=>by grind
    rw[e,kJ,h4 z hz,h5 z hz];grind
  obtain⟨d,hd⟩:=key j (aI j)
  obtain⟨i,hi,he⟩:=h.lead (r:=r) (c:=λi=>c i-d i) (z0:=z0) (λz hza=>by
   have e1:cI (λl=>Q z l*y l) (j+1)=0:=by
    rw[<-h3 z hza]
    exact(uN hj λl hl _=>by rw[h2 l oM,cA]).symm
   replace e1:cI (λl=>Q z l*y l) j+Q z j*y j=0:=e1
   rw[h1,hd z hza] at e1
   have e2:cI (λi=>W i z*(c i-d i)) t=cI (λi=>W i z*c i+ -1*(W i z*d i)) t:=bM λi _=>by grind
   rw[e2,kJ,hr z hza];grind) h0 hn hz
  exact hx i hi he
 refine⟨λi hi=>?_,λi hi=>?_,λi hi z hzi=>?_,λi k hi hk he=>?_,λi hi=>?_,λl hl=>?_⟩
 ·by_cases e:i=t
  ·subst e;rw[bJ];exact h0
  rw[bD e];exact h.lt i oM
 ·by_cases e:i=t
  ·subst e;rw[bJ,bJ];exact hn
  rw[bD e,bD e];exact h.nz i oM
 ·by_cases e:i=t
  ·subst e;rw[bJ];rw[bJ] at hzi;exact hz z hzi
  rw[bD e];rw[bD e] at hzi;exact h.z i oM z hzi
 ·by_cases e:i=t
  ·by_cases e2:k=t
   ·rw[e,e2]
   rw[e,bJ,bD e2] at he;exact absurd he.symm (hx k oM)
  by_cases e2:k=t
  ·rw[e2,bJ,bD e] at he;exact absurd he (hx i oM)
  rw[bD e,bD e2] at he;exact h.inj i k oM oM he
 ·by_cases e:i=t
  ·subst e
   obtain⟨y,h1,h2⟩:=h.comb c
   refine⟨λl=>y l+(if l=j then 1 else 0),λl hl=>by show y l+_=0;rw[h1 l oM,if_neg oM];grind,λz hz=>?_⟩
   rw[bJ]
   have e:cI (λl=>Q z l*(y l+(if l=j then 1 else 0))) b=cI (λl=>Q z l*y l+1*(Q z l*(if l=j then 1 else 0))) b:=bM λl _=>by grind
   rw[e,kJ,<-h2 z hz,jO (m:=j) hj λl hl=>by rw[if_neg hl,cA],if_pos rfl,hr z hz]
   grind
  rw[bD e]
  obtain⟨y,h3,h4⟩:=h.A i oM
  exact⟨y,λl hl=>h3 l oM,h4⟩
 by_cases e:l=j
 ·subst e
  refine⟨λi=>if i=t then 1 else-c i,λz hz=>?_⟩
  rw[sw,if_pos rfl]
  have e2:cI (λi=>W i z*(if i=t then 1 else-c i)) t=-1*cI (λi=>W i z*c i) t:=by rw[<-kK];exact bM λi hi=>by rw[if_neg oM];grind
  rw[e2,hr z hz];grind
 obtain⟨d,hd⟩:=h.B l oM
 refine⟨λi=>if i=t then 0 else d i,λz hz=>?_⟩
 rw[sw,if_pos rfl,cA,bP,hd z hz]
 exact bM λi hi=>by rw[if_neg oM]
end ids
theorem bIi {Q Q':Nat->Nat->Rat} {a b j:Nat} {rk:Nat->Nat} (hl:∀i,i<a->rk i<a) (hi:∀i k,i<a->k<a->rk i=rk k->i=k) (hq:∀i l,i<a->l<b->Q' (rk i) l=Q i l):Dep Q' a b j↔Dep Q a b j:=by
 have hn:∀x,Nul Q' a b x↔Nul Q a b x:=λx=>⟨λh i hia=>by
  rw[<-h (rk i) (hl i hia)]
  exact bM λl hlb=>by rw[hq i l hia hlb],λh z hz=>by
  obtain⟨i,hia,rfl⟩:=oW hl hi z hz
  rw[<-h i hia]
  exact bM λl hlb=>by rw[hq i l hia hlb]⟩
 exact⟨λ⟨x,h1,h2,h3⟩=>⟨x,h1,h2,(hn x).1 h3⟩,λ⟨x,h1,h2,h3⟩=>⟨x,h1,h2,(hn x).2 h3⟩⟩
theorem aCa {x x':Nat->Nat} {V V':Nat->CV}:∀{k:Nat},(∀i,i<k->x i=x' i/\V i=V' i)->kvL x V k=kvL x' V' k
 |0,_=>rfl
 |k+1,h=>by
  show kvL x V k++_=kvL x' V' k++_
  rw[aCa λi hi=>h i (eO hi),(h k (bF k)).1,(h k (bF k)).2]
theorem bSd {B m:Nat}:∀n,bd (bd B m) n=bd B (m+n)
 |0=>rfl
 |n+1=>by show 4*bd (bd B m) n+1=4*bd B (m+n)+1;rw[bSd n]
noncomputable def gF (P:Nat->Prop) (k:Nat):List Int:=@fR P (λ_=>Classical.propDecidable _) k
theorem jP {P:Nat->Prop} {k:Nat} (h:P k):gF P (k+1)=gF P k++[(k:Int)]:=@xI P (λ_=>Classical.propDecidable _) k h
theorem mF {P:Nat->Prop} {k:Nat} (h:¬P k):gF P (k+1)=gF P k:=@tF P (λ_=>Classical.propDecidable _) k h
theorem iD {P:Nat->Prop} {k:Nat}:(gF P k).length<=k:=@sA P (λ_=>Classical.propDecidable _) k
theorem tG {P:Nat->Prop} [DecidablePred P]:∀k,fR P k=gF P k
 |0=>rfl
 |k+1=>by
  by_cases h:P k
  ·rw[xI h,jP h,tG k]
  rw[tF h,mF h,tG k]
noncomputable abbrev jY (Q:Nat->Nat->Rat) (a b k:Nat):List Int:=gF (λj=>¬Dep Q a b j) k
theorem aOf {Q:Nat->Nat->Rat} {a b k:Nat} (h:¬Dep Q a b k):jY Q a b (k+1)=jY Q a b k++[(k:Int)]:=jP h
theorem aVy {Q:Nat->Nat->Rat} {a b k:Nat} (h:Dep Q a b k):jY Q a b (k+1)=jY Q a b k:=mF λhh=>hh h
theorem aFp {Q:Nat->Nat->Rat} {a b k:Nat}:(jY Q a b k).length<=k:=iD
structure InG where
 j:Nat
 t:Nat
 G:Nat->List CV
 ws:Nat->Sl EntM
 es:Nat->List En
 x:Nat->Nat
structure InI (Q:Nat->Nat->Rat) (a b B:Nat) (g:InG):Prop where
 j:g.j<=b
 G:g.G 0=kvL g.x (λi=>cF (g.ws i)) g.t
 e:EcS a g.t (bd B (a*g.j)) g.ws g.es g.x
 s:IdS Q a b g.j g.t (λi z=>Vm.get (g.es i) (z:Nat)) g.x
abbrev idB (m:MatM) (L:List Int):BL:=[(24,0,m.C),(3,1,L.map iC)]
theorem aSi {m:MatM} {L:List Int}:scB 2 (idB m L):=aB rfl (aB (bU (bK _)) aY)
abbrev inS (d:Sl (Sl EntM)) (mb b j:Nat) (L:List Int):List (Nat×DV):=[(16,.c (iC j)),(14,.c (mL d)),(15,.c (iC b)),(4,.c (.v (.map (some mb)))),(5,.c (.s 1 L.length))]
abbrev bIj:FuncId:=57
theorem cMu:Ent Tryz.prog bIj:=aU func57 rfl kR
theorem cMv:Tryz.prog.funcs[bIj]? =some Tryz.f57:=func57
theorem bIk (m:MatM) {M:Nat->List En} {a b B:Nat} (h:Mr m M a b B) (hb:rbM M a B) (h1:1<=B) (hB:bd B (a*b)<=4398046511104) (ha:a<=12) (hbn:b<=4096):Ctr Tryz.prog bIj [] [.a m.C] [] (λg:Sl Int=>⟨.t [.c (cD g),.c (iC 0)],[],g.l=jY (mQ M) a b b⟩):=by
 have hB0:B<=4398046511104:=aJ (kT (aC (a*b))) hB
 refine aW gT cMu cMv rfl rfl rfl bL aS (aA gT mxd ⟨[],aEx _ h hB0 oM hbn,rfl,rfl,rfl,λ_ _=>⟨λh2=>absurd trivial h2,λ_=>aA gT mxd λmb=>⟨[],cMs m h hb h1 hB0 ha hbn,rfl,rfl,rfl,λ⟨d,rs,rk⟩ hS=>?_⟩⟩⟩)
 replace hS:SpF M a b d rs rk:=hS
 obtain⟨Q,hQ⟩:∃Q:Nat->Nat->Rat,Q=λz j=>Vm.get (rs j) (z:Nat):=⟨_,rfl⟩
 have hdp:∀j,Dep Q a b j↔Dep (mQ M) a b j:=λj=>bIi hS.lt hS.inj λi l hi hl=>by rw[hQ];exact hS.get i l hi hl
 have hrb:=hS.rb B h1 hb
 refine aIp 5 3 1 rfl bL ?_
 refine cG (λ_=>true) (λg:InG=>inS d mb b g.j (jY (mQ M) a b g.j)) (λg=>idB m (jY (mQ M) a b g.j)) (λg=>[mpF mb g.G]) (λg=>InI Q a b B g) (λg=>b-g.j) λhM=>⟨bH hM (chg:=λg:InG=>inS d mb b g.j (jY (mQ M) a b g.j)) (bls:=λg=>idB m (jY (mQ M) a b g.j)) (fls:=λg=>[mpF mb g.G]) ⟨0,0,λ_=>[],λ_=>cP,λ_=>[],λ_=>0⟩ ⟨aC _,rfl,⟨λ_ h=>absurd h (aF _),λ_ h=>absurd h (aF _),λ_ h=>absurd h (aF _),λ_ h=>absurd h (aF _),λ_ h=>absurd h (aF _)⟩,IdS.start⟩ rfl ⟨rfl,rfl⟩ ⟨rfl,trivial⟩ ⟨rfl,rfl,?_,rfl,rfl⟩ bL aSi rfl,λg hI=>aA gT mxd ⟨λh2=>aA gT mxd ?_,λh2=>aA gT mxd ?_⟩⟩
 ·show((d.l.length:Nat):Int)=(b:Nat);rw[hS.ln]
 ·replace h2:(g.j:Int)<(b:Nat):=h2
  have hjb:g.j<b:=by omega
  have hdl:=hS.ln
  have hab:a*g.j+a<=a*b:=by rw[<-vV];exact cZ a hjb
  have hbb:bd (bd B (a*g.j)) a=bd B (a*(g.j+1)):=by rw[bSd,vV]
  have hll:=aFp (Q:=mQ M) (a:=a) (b:=b) (k:=g.j)
  have hv:=hS.ok g.j hjb
  refine⟨g.j,⟨rfl,by omega⟩,[1000],cMt mb g.G (d.l.getD g.j cP) hI.G hI.e (hS.row g.j hjb) hv (λe he=>(hrb g.j hjb e he).le (kT (aC _))) (vP h1 _) (by rw[hbb];exact aJ (kT (by rw[vV];exact hab)) hB) oM,rfl,rfl,rfl,λy hy=>?_⟩
  obtain⟨hy1,hy2⟩:=hy
  replace hy1:RdI a g.t (bd B (a*g.j)) g.es (rs g.j) y:=hy1
  replace hy2:y.r=[]\/∀i,i<g.t->((g.x i:Nat):Int)≠(y.r.getD 0 default).1:=hy2
  have hyl:=hy1.v.ln
  have hsum:∀z,z<a->Vm.get y.r (z:Nat)=Q z g.j+cI (λi=>Vm.get (g.es i) (z:Nat)*y.cf i) g.t:=λz _=>by rw[hQ];exact hy1.sum _
  have hle:∀i e,e∈g.es i->rb e.2 (bd B (a*g.j))->rb e.2 (bd B (a*(g.j+1))):=λi e _ h=>h.le (kT (by rw[vV];omega))
  have hS0:IdS Q a b g.j g.t (λi z=>Vm.get (g.es i) (z:Nat)) g.x:=hI.s
  refine⟨λh3=>aA gT mxd ?_,λh3=>aA gT mxd ?_⟩
  ·replace h3:(0:Int)<(y.v.l.length:Nat):=h3
   have hrl:0<y.r.length:=by omega
   obtain⟨r1,r2,r3,r4⟩:=aFn hy1.ok hrl
   obtain⟨z0,hz0⟩:∃z0:Nat,(y.r.getD 0 default).1=(z0:Nat):=⟨(y.r.getD 0 default).1.toNat,by omega⟩
   have hx:∀i,i<g.t->g.x i≠z0:=λi hi e=>by
    rcases hy2 with h4|h4
    ·rw[h4] at hrl;exact absurd hrl (jF 0)
    exact h4 i hi (by rw[hz0,e])
   have he0:=(hy1.v.e 0 hrl)
   obtain⟨n1,n2⟩:=hS0.yes (r:=λz=>Vm.get y.r (z:Nat)) (c:=y.cf) (z0:=z0) hjb hsum oM (by show Vm.get y.r (z0:Nat)≠0;rw[<-hz0,r1];exact r2) (λz hz=>r4 _ oM) hx
   have n1':¬Dep (mQ M) a b g.j:=λh=>n1 ((hdp g.j).2 h)
   have hyes:=aOf n1'
   refine⟨0,⟨rfl,by omega⟩,0,0,z0,⟨Nat.one_pos,rfl,he0.1.trans hz0,λi c' h4 h5=>?_⟩,apI (x:=jY (mQ M) a b g.j) oM,(λc hc=>by rw[aH.1 hc];rfl),(g.j+1:Nat),wi,bH hM (chg:=λg:InG=>inS d mb b g.j (jY (mQ M) a b g.j)) (bls:=λg=>idB m (jY (mQ M) a b g.j)) (fls:=λg=>[mpF mb g.G]) ⟨g.j+1,g.t+1,upd g.G 0 (g.G 0++[iC (z0:Nat),cF y.v]),upd g.ws g.t y.v,upd g.es g.t y.r,upd g.x g.t z0⟩ ⟨⟨hjb,?_,⟨λi hi=>?_,λi hi=>?_,λi hi=>?_,λi hi=>?_,λi hi=>?_⟩,?_⟩,show b-(g.j+1)<b-g.j by omega⟩ rfl ⟨rfl,?_⟩ ⟨rfl,trivial⟩ ⟨rfl,rfl,rfl,rfl,?_⟩ bL aSi rfl⟩
   ·rw[show(mpF mb g.G).get 0=kvL g.x (λi=>cF (g.ws i)) g.t from hI.G] at h4 h5
    obtain⟨h6,h7,_⟩:=aBx h4 h5
    exact hx i h6 oM
   ·refine(bJ:upd g.G 0 _ 0=_).trans ?_
    have e1:kvL g.x (λi=>cF (g.ws i)) g.t=kvL (upd g.x g.t z0) (λi=>cF (upd g.ws g.t y.v i)) g.t:=aCa λi hi=>⟨(bD oM).symm,by rw[bD oM]⟩
    have e2:upd g.x g.t z0 g.t=z0:=bJ
    have e3:upd g.ws g.t y.v g.t=y.v:=bJ
    show g.G 0++_=kvL (upd g.x g.t z0) (λi=>cF (upd g.ws g.t y.v i)) g.t++[iC (upd g.x g.t z0 g.t:Nat),cF (upd g.ws g.t y.v g.t)]
    rw[e2,e3,<-e1,hI.G]
   ·by_cases e:i=g.t
    ·subst e;show Ek (upd g.ws g.t y.v g.t).l (upd g.es g.t y.r g.t);rw[bJ,bJ];exact hy1.v
    show Ek (upd g.ws g.t y.v i).l (upd g.es g.t y.r i);rw[bD e,bD e];exact hI.e.row i (by have:i<g.t+1:=hi;omega)
   ·by_cases e:i=g.t
    ·subst e;show VOk (upd g.es g.t y.r g.t) _;rw[bJ];exact hy1.ok
    show VOk (upd g.es g.t y.r i) _;rw[bD e];exact hI.e.ok i (by have:i<g.t+1:=hi;omega)
   ·by_cases e:i=g.t
    ·subst e;show rbE (upd g.es g.t y.r g.t) (bd B (a*(g.j+1)));rw[bJ,<-hbb];exact λe he=>(hy1.rb e he).le (kT hy1.c)
    show rbE (upd g.es g.t y.r i) (bd B (a*(g.j+1)));rw[bD e];exact λe' he=>hle i e' he (hI.e.rb i (by have:i<g.t+1:=hi;omega) e' he)
   ·by_cases e:i=g.t
    ·subst e;show 0<(upd g.es g.t y.r g.t).length;rw[bJ];exact hrl
    show 0<(upd g.es g.t y.r i).length;rw[bD e];exact hI.e.ne i (by have:i<g.t+1:=hi;omega)
   ·by_cases e:i=g.t
    ·subst e;show((upd g.es g.t y.r g.t).getD 0 default).1=(upd g.x g.t z0 g.t:Nat);rw[bJ,bJ];exact hz0
    show((upd g.es g.t y.r i).getD 0 default).1=(upd g.x g.t z0 i:Nat);rw[bD e,bD e];exact hI.e.ld i (by have:i<g.t+1:=hi;omega)
   ·show IdS Q a b (g.j+1) (g.t+1) (λi z=>Vm.get (upd g.es g.t y.r i) (z:Nat)) (upd g.x g.t z0)
    have e:(λ(i z:Nat)=>Vm.get (upd g.es g.t y.r i) (z:Nat))=upd (λ(i z:Nat)=>Vm.get (g.es i) (z:Nat)) g.t λz=>Vm.get y.r (z:Nat):=funext λi=>by
     by_cases e:i=g.t
     ·subst e;rw[bJ];funext z;rw[bJ]
     rw[bD e];funext z;rw[bD e]
    rw[e];exact n2
   ·show(_,_,(jY (mQ M) a b g.j).map iC++[iC (g.j:Nat)])=(_,_,(jY (mQ M) a b (g.j+1)).map iC)
    rw[hyes,bG];rfl
   show(jY (mQ M) a b g.j).length+1=(jY (mQ M) a b (g.j+1)).length
   rw[hyes,aE];rfl
  replace h3:¬(0:Int)<(y.v.l.length:Nat):=h3
  have hr0:y.r=[]:=bQ oM
  obtain⟨n1,n2⟩:=hS0.no (r:=λz=>Vm.get y.r (z:Nat)) (c:=y.cf) hjb hsum (λz _=>by show Vm.get y.r _=0;rw[hr0];rfl)
  have n1':Dep (mQ M) a b g.j:=(hdp g.j).1 n1
  have hno:=aVy n1'
  refine⟨(g.j+1:Nat),wi,bH hM (chg:=λg:InG=>inS d mb b g.j (jY (mQ M) a b g.j)) (bls:=λg=>idB m (jY (mQ M) a b g.j)) (fls:=λg=>[mpF mb g.G]) ⟨g.j+1,g.t,g.G,g.ws,g.es,g.x⟩ ⟨⟨hjb,hI.G,⟨hI.e.row,hI.e.ok,λi hi e he=>hle i e he (hI.e.rb i hi e he),hI.e.ne,hI.e.ld⟩,n2⟩,show b-(g.j+1)<b-g.j by omega⟩ rfl ⟨rfl,?_⟩ ⟨rfl,trivial⟩ ⟨rfl,rfl,rfl,rfl,?_⟩ bL aSi rfl⟩
  ·show(_,_,(jY (mQ M) a b g.j).map iC)=(_,_,(jY (mQ M) a b (g.j+1)).map iC)
   rw[hno]
  show(jY (mQ M) a b g.j).length=(jY (mQ M) a b (g.j+1)).length
  rw[hno]
 replace h2:¬(g.j:Int)<(b:Nat):=h2
 have hgj:g.j=b:=by have:=hI.j;omega
 show Sd _ _ _ _ _ _
 refine rT 5 1 (λj=>[iC ((jY (mQ M) a b g.j).getD j 0)]) rfl rfl (λj hj=>nS j hj) (by rw[aN,bI]) bL (bK _) bL λA c _ _=>aA gT mxd ⟨⟨A,c,jY (mQ M) a b g.j⟩,by show jY (mQ M) a b g.j=_;rw[hgj],aM ⟨rfl,rfl⟩ rfl trivial⟩
theorem cMw {p:Prop} {hp:Decidable p} (h:¬p) {ρ:Pl} {n:Nat} {w:World} {v:Value} (hv:Hd ρ n w (.c (.b p hp)) v):Hd ρ n w (.c (.v (.bool false))) v:=by
 have:=hv.inv_c.inv_b
 rw[this,decide_eq_false h];exact .c (Rc.v _)
theorem aFq {p:Prop} {hp:Decidable p} (h:p) {ρ:Pl} {n:Nat} {w:World} {v:Value} (hv:Hd ρ n w (.c (.b p hp)) v):Hd ρ n w (.c (.v (.bool true))) v:=by
 have:=hv.inv_c.inv_b
 rw[this,decide_eq_true h];exact .c (Rc.v _)
abbrev nB (n:Int):BL:=[(3,0,[iC n])]
theorem aHi {n:Int}:scB 1 (nB n):=aB rfl aY
abbrev yS:FuncId:=191
theorem cMx:Ent Tryz.prog yS:=aU func191 rfl kR
theorem cMy:Tryz.prog.funcs[yS]? =some Tryz.f191:=func191
theorem cCc (n i:Int) (h:0<=i/\i<n):Ctr Tryz.prog yS [true] [.c (iC i),.c (.p 0 0)] (nB n) (λ_:Unit=>⟨pC False,nB n,True⟩):=
 aW gT cMx cMy rfl rfl rfl bL (eW rfl) (aA gT mxd ⟨(),trivial,fH ⟨λhh=>Or.elim hh (λhh=>absurd hh (pQ.2 h.1)) λhh=>absurd hh (zJ.2 h.2),False.elim⟩ rfl bL aHi rfl (eW rfl)⟩)
abbrev cCd:FuncId:=190
theorem cTi:Ent Tryz.prog cCd:=aU func190 rfl kR
theorem cTj:Tryz.prog.funcs[cCd]? =some Tryz.f190:=func190
theorem bSe (n:Int):Ctr Tryz.prog cCd [] [.c (iC n)] [] (λ_:Unit=>⟨.c (.f yS [] [(0,0)]),nB n,True⟩):=
 aW gT cTi cTj rfl rfl rfl bL aS (aA gT mxd ⟨(),trivial,fH rfl rfl (aC _) aHi rfl aCl⟩)
abbrev cCe:FuncId:=224
theorem cTk:Ent Tryz.prog cCe:=aU func224 rfl kR
theorem cTl:Tryz.prog.funcs[cCe]? =some Tryz.f224:=func224
theorem cMz (x:Sl Int) (n:Int) (hl:x.l.length<=4096) (h:∀k,k<x.l.length->0<=x.l.getD k 0/\x.l.getD k 0<n):Ctr Tryz.prog cCe [true] [.c (cD x),.c (.f yS [] [(0,0)])] (nB n) (λ_:Unit=>⟨.c (iC (-1)),nB n,True⟩):=by
 refine aW gT cTk cTl rfl rfl rfl bL (eW rfl) (aA gT mxd ?_)
 refine cG (λ_=>true) (λk:Nat=>[(8,.c (iC k)),(0,.c (cD x)),(1,.c (.f yS [] [(0,0)])),(7,.c (iC (x.l.length:Nat)))]) (λ_=>nB n) (λ_=>[]) (λk=>k<=x.l.length) (λk=>x.l.length-k) λhM=>⟨bH hM (chg:=λk:Nat=>[(8,.c (iC k)),(0,.c (cD x)),(1,.c (.f yS [] [(0,0)])),(7,.c (iC (x.l.length:Nat)))]) (bls:=λ_=>nB n) (fls:=λ_=>[]) 0 (aC _) rfl rfl trivial ⟨rfl,rfl,rfl,rfl⟩ bL aHi rfl,λk hk=>aA gT mxd ⟨λh2=>aA gT mxd ?_,λh2=>aA gT mxd ?_⟩⟩
 ·replace h2:(k:Int)<(x.l.length:Nat):=h2
  have hkn:k<x.l.length:=by omega
  exact⟨k,⟨rfl,hkn⟩,_,rfl,[0],cCc n _ (h k hkn),rfl,rfl,rfl,λ_ _=>⟨λhh=>hh.elim,λ_=>aA gT mxd ⟨(k+1:Nat),wi,bH hM (chg:=λk:Nat=>[(8,.c (iC k)),(0,.c (cD x)),(1,.c (.f yS [] [(0,0)])),(7,.c (iC (x.l.length:Nat)))]) (bls:=λ_=>nB n) (fls:=λ_=>[]) (k+1) ⟨hkn,show x.l.length-(k+1)<x.l.length-k by omega⟩ rfl rfl trivial ⟨rfl,rfl,rfl,rfl⟩ bL aHi rfl⟩⟩⟩
 exact aA gT mxd ⟨(),trivial,fH rfl rfl bL aHi rfl (eW rfl)⟩
abbrev bOx:FuncId:=192
theorem cTm:Ent Tryz.prog bOx:=aU func192 rfl kR
theorem cTn:Tryz.prog.funcs[bOx]? =some Tryz.f192:=func192
theorem bSf (x:Sl Int) (n:Int) (hl:x.l.length<=4096) (h:∀k,k<x.l.length->0<=x.l.getD k 0/\x.l.getD k 0<n):Ctr Tryz.prog bOx [true] [.c (cD x),.c (.f yS [] [(0,0)])] (nB n) (λ_:Unit=>⟨.c (.v (.bool false)),nB n,True⟩):=by
 have h1:Ctr Tryz.prog bOx [true] [.c (cD x),.c (.f yS [] [(0,0)])] (nB n) (λ_:Unit=>⟨pC False,nB n,True⟩):=
  aW gT cTm cTn rfl rfl rfl bL (eW rfl) (aA gT mxd ⟨[0],cMz x n hl h,rfl,rfl,rfl,λ_ _=>⟨(),trivial,fH ⟨λhh=>absurd hh (show ¬((0:Int)<=-1) by decide),False.elim⟩ rfl bL aHi rfl (eW rfl)⟩⟩)
 exact CtrF.ld h1 λg hg=>⟨(),trivial,λ_ _ _ _ hv=>cMw (λhh=>hh) hv,rfl,rfl⟩
theorem bSg (z:Int) (h:0<=z/\z<=16384):Ctr Tryz.prog bNa [] [.c (iC z)] [] (λ_:Unit=>⟨.c (.v (.bool true)),[],True⟩):=CtrF.ld (bEv z) λg hg=>⟨(),trivial,λ_ _ _ _ hv=>aFq h hv,rfl,rfl⟩
abbrev cCf:FuncId:=193
theorem cTo:Ent Tryz.prog cCf:=aU func193 rfl kR
theorem cTp:Tryz.prog.funcs[cCf]? =some Tryz.f193:=func193
theorem cNa (e f:EntM):Ctr Tryz.prog cCf [] [.a e.C,.a f.C] [] (λ_:Unit=>⟨.c (iC (cmE e.ix f.ix)),[],True⟩):=
 aW gT cTo cTp rfl rfl rfl bL aS (aA gT mxd ⟨[],bGi e.ix f.ix,rfl,rfl,rfl,λ_ _=>⟨(),trivial,aM rfl rfl trivial⟩⟩)
structure SelA (a b:Nat) (rs cs:Sl Int) (ρ κ:Nat->Nat):Prop where
 r:∀k,k<rs.l.length->rs.l.getD k 0=(ρ k:Nat)/\ρ k<a
 c:∀k,k<cs.l.length->cs.l.getD k 0=(κ k:Nat)/\κ k<b
 m:∀k l,k<l->l<cs.l.length->κ k<κ l
 rl:rs.l.length<=4096
 cl:cs.l.length<=12
abbrev bOy (m:MatM):BL:=[(24,0,m.C),(24,0,[iC 0,iC 0,.v (.slice none 0 0)])]
theorem aVz {m:MatM}:scB 2 (bOy m):=aB rfl (aB rfl aY)
abbrev cCg (rs cs:Sl Int) (mb k:Nat):List (Nat×DV):=[(53,.c (iC k)),(9,.c (.v (.map (some mb)))),(51,.c (cD cs)),(52,.c (iC (cs.l.length:Nat))),(3,.c (.p 0 0)),(6,.c (.p 1 0)),(1,.c (cD rs)),(2,.c (cD cs))]
abbrev bOz (rs:Sl Int) (mb k:Nat):List (Nat×DV):=[(74,.c (iC k)),(72,.c (cD rs)),(73,.c (iC (rs.l.length:Nat))),(9,.c (.v (.map (some mb)))),(3,.c (.p 0 0)),(6,.c (.p 1 0)),(12,.c (.p 4 0))]
abbrev bIl (m:MatM) (u n:Nat) (Y:Nat->Sl EntM):BL:=[(24,0,m.C),(24,0,[iC 0,iC 0,.v (.slice none 0 0)]),(24,0,[iC u,iC n,.s 3 u]),(65,1,dI u λj=>cF (Y j)),(24,0,[iC u,iC n,.s 3 u])]
theorem aWa {m:MatM} {u n:Nat} {Y:Nat->Sl EntM}:scB 5 (bIl m u n Y):=aB rfl (aB rfl (aB rfl (aB (bU (aX λ_ _=>rfl)) (aB rfl aY))))
abbrev aSj (x:Sl EntM) (rs:Sl Int) (mb k t l:Nat):List (Nat×DV):=(85,.c (iC t))::(83,.c (cF x))::(84,.c (iC (x.l.length:Nat)))::(15,.c (.s 5 l))::(13,.c (iC k))::bOz rs mb k
abbrev aOg (m:MatM) (u n:Nat) (Y:Nat->Sl EntM) (L:List EntM):BL:=bIl m u n Y++[(82,4,ecs L)]
theorem aDk {m:MatM} {u n:Nat} {Y:Nat->Sl EntM} {L:List EntM}:scB 6 (aOg m u n Y L):=aB rfl (aB rfl (aB rfl (aB (bU (aX λ_ _=>rfl)) (aB rfl (aB (bU (gN L)) aY)))))
abbrev bIm (x:Sl EntM) (rs:Sl Int) (mb k t l:Nat) (d:CV) (v z:Nat):List (Nat×DV):=(94,.c (iC z))::(92,.c d)::(93,.c (iC v))::(17,.c (.p 6 0))::aSj x rs mb k t l
abbrev aYm (m:MatM) (u n:Nat) (Y:Nat->Sl EntM) (L:List EntM) (e:EntM):BL:=aOg m u n Y L++[(82,0,e.C)]
theorem aKy {m:MatM} {u n:Nat} {Y:Nat->Sl EntM} {L:List EntM} {e:EntM}:scB 7 (aYm m u n Y L e):=aB rfl (aB rfl (aB rfl (aB (bU (aX λ_ _=>rfl)) (aB rfl (aB (bU (gN L)) (aB rfl aY))))))
theorem cNb (n:Nat):PmL (nL n λi=>i) n:=by
 have e:∀i,i<n->(nL n λi=>i).getD i 0=(i:Nat):=λi hi=>by unfold nL;simp[hi]
 exact⟨by unfold nL;simp,λi hi=>⟨i,e i hi,hi⟩,λi j hi hj h=>by rw[e i hi,e j hj] at h;omega⟩
theorem bPa {zs ys:List EntM} {es:List En} {n:Nat} (hz:zs.Perm ys) (hs:SrE zs ys.length) (hy:Ek ys es) (ho:VOk es (n:Nat)):Ek zs es:=by
 obtain⟨rs,r1,r2⟩:=aVj hz hy
 have e:es.map (rnE (nL n λi=>i))=es:=by
  refine(dP λe he=>?_).trans (xV es)
  have h1:=ho.2 e he
  have h2:(nL n λi=>i).getD e.1.toNat 0=(e.1.toNat:Nat):=by unfold nL;simp[show e.1.toNat<n by omega]
  show((nL n λi=>i).getD e.1.toNat 0,e.2)=e
  rw[h2,show((e.1.toNat:Nat):Int)=e.1 by omega]
 have h1:Asc rs:=bGp r1 (by rw[hz.length_eq];exact hs) (by rw[e];exact r2) ho (cNb n)
 rw[<-Vm.canon_ext rs es h1 ho.1 (λe he=>(ho.2 e (r2.subset he)).2.2) (λe he=>(ho.2 e he).2.2) λi=>Vm.get_perm r2 i]
 exact r1
abbrev bIn:FuncId:=128
theorem cNc:Ent Tryz.prog bIn:=aU func128 rfl kR
theorem cNd:Tryz.prog.funcs[bIn]? =some Tryz.f128:=func128
theorem cCh (m:MatM) (rs cs:Sl Int) {M:Nat->List En} {a b B:Nat} {ρ κ:Nat->Nat} (h:Mr m M a b B) (hb:rbM M a B) (h1:1<=B) (hB:B<=4398046511104) (ha:a<=4096) (hbn:b<=4096) (hA:SelA a b rs cs ρ κ):Ctr Tryz.prog bIn [] [.a m.C,.c (cD rs),.c (cD cs)] [] (λg:MatM=>⟨.t [.a g.C,.c (iC 0)],[],Mk g (λk=>jI κ cs.l.length (M (ρ k))) rs.l.length cs.l.length⟩):=by
 obtain⟨mr,mc,md⟩:=m
 obtain rfl:mr=(a:Nat):=h.r
 obtain rfl:mc=(b:Nat):=h.c
 have hrl:=hA.rl
 have hcl:=hA.cl
 refine aW gT cNc cNd rfl rfl rfl bL aS (aA gT mxd ⟨[],aEx _ h hB ha hbn,rfl,rfl,rfl,λ_ _=>⟨λh2=>absurd trivial h2,λ_=>aA gT mxd ⟨[],bSe (a:Nat),rfl,rfl,rfl,λ_ _=>⟨[2],bSf rs (a:Nat) oM (λk hk=>by have:=hA.r k hk;omega),rfl,rfl,rfl,λ_ _=>⟨[],bSe (b:Nat),rfl,rfl,rfl,λ_ _=>⟨[3],bSf cs (b:Nat) oM (λk hk=>by have:=hA.c k hk;omega),rfl,rfl,rfl,λ_ _=>⟨[],bSg (rs.l.length:Nat) oM,rfl,rfl,rfl,λ_ _=>⟨[],bSg (cs.l.length:Nat) oM,rfl,rfl,rfl,λ_ _ mb=>?_⟩⟩⟩⟩⟩⟩⟩⟩)
 refine cG (λ_=>true) (λg:Nat×(Nat->List CV)×(Nat->Sl Int)=>cCg rs cs mb g.1) (λ_=>bOy ⟨a,b,md⟩) (λg=>[mpF mb g.2.1]) (λg=>g.1<=cs.l.length/\g.2.1 0=kvL κ (λi=>cD (g.2.2 i)) g.1/\∀i,i<g.1->(g.2.2 i).l=[(i:Int)]) (λg=>cs.l.length-g.1) λhM=>⟨bH hM (chg:=λg:Nat×(Nat->List CV)×(Nat->Sl Int)=>cCg rs cs mb g.1) (bls:=λ_=>bOy ⟨a,b,md⟩) (fls:=λg=>[mpF mb g.2.1]) (0,λ_=>[],λ_=>cP) ⟨aC _,rfl,λi hi=>absurd hi (aF _)⟩ rfl ⟨rfl,rfl⟩ ⟨rfl,trivial⟩ ⟨rfl,rfl,rfl,rfl,rfl,rfl,rfl,rfl⟩ bL aVz rfl,λ⟨k,G,pl⟩ ⟨hk,hG,hpl⟩=>Sd.sq (aA gT mxd (Sd.sq (aA gT mxd ⟨λh2=>aA gT mxd ?_,λh2=>aA gT mxd ?_⟩)))⟩
 all_goals
  replace hk:k<=cs.l.length:=hk
  replace hG:G 0=kvL κ (λi=>cD (pl i)) k:=hG
  replace hpl:∀i,i<k->(pl i).l=[(i:Int)]:=hpl
 ·replace h2:(k:Int)<(cs.l.length:Nat):=h2
  have hkn:k<cs.l.length:=by omega
  refine Sd.sq (Sd.blk (Sd.sq (aA gT mxd ⟨k,⟨rfl,hkn⟩,?_⟩)))
  refine Sd.rg gT (l:=[_,_,_,_,_,_,_,_,_]) [_,_,_,_,_,_,_,_] [_] rfl rfl ?_
  have hno:∀(i:Nat) (c':CV),((mpF mb G).get 0)[2*i]? =some (.v (.int .i64 (κ k:Nat)))->((mpF mb G).get 0)[2*i+1]? =some c'->False:=λi c' h4 h5=>by
   rw[show(mpF mb G).get 0=kvL κ (λi=>cD (pl i)) k from hG] at h4 h5
   obtain⟨h6,h7,_⟩:=aBx h4 h5
   have:=hA.m i k h6 hkn
   omega
  refine⟨0,0,⟨Nat.one_pos,rfl⟩,λi c' h4 h5=>absurd (hno i c' (by rw[<-(hA.c k hkn).1];exact h4) h5) (λhh=>hh),λ_=>⟨⟨rfl,by simp only[maxLen];omega,by show 1*8<=_;omega⟩,?_⟩⟩
  show Sdl _ _ _ _ _ _ _
  refine aPq bUl 65 3 (λj=>[iC (([(k:Int)]:List Int).getD j 0)]) rfl rfl (λj hj=>?_) rfl bL (λc hc=>by rw[aH.1 hc];rfl) bL λA c _ _=>⟨cm (aYf rfl),?_⟩
  ·obtain rfl:j=0:=by omega
   rfl
  refine Sdl.go (l:=[_,_,_,_,_,_,_,_,_]) gT ?_
  refine⟨0,0,κ k,⟨Nat.one_pos,rfl,(hA.c k hkn).1,hno⟩,aA gT mxd ⟨(k+1:Nat),wi,bH hM (chg:=λg:Nat×(Nat->List CV)×(Nat->Sl Int)=>cCg rs cs mb g.1) (bls:=λ_=>bOy ⟨a,b,md⟩) (fls:=λg=>[mpF mb g.2.1]) (k+1,upd G 0 (G 0++[iC (κ k:Nat),cD ⟨A,c,[(k:Int)]⟩]),upd pl k ⟨A,c,[(k:Int)]⟩) ⟨⟨hkn,?_,λi hi=>?_⟩,show cs.l.length-(k+1)<cs.l.length-k by omega⟩ rfl ⟨rfl,rfl⟩ ⟨rfl,trivial⟩ ⟨rfl,rfl,rfl,rfl,rfl,rfl,rfl,rfl⟩ bL aVz rfl⟩⟩
  ·refine(bJ:upd G 0 _ 0=_).trans ?_
   have e1:kvL κ (λi=>cD (pl i)) k=kvL κ (λi=>cD (upd pl k ⟨A,c,[(k:Int)]⟩ i)) k:=aCa λi hi=>⟨rfl,by rw[bD oM]⟩
   have e2:upd pl k ⟨A,c,[(k:Int)]⟩ k=⟨A,c,[(k:Int)]⟩:=bJ
   show G 0++_=kvL κ (λi=>cD (upd pl k ⟨A,c,[(k:Int)]⟩ i)) k++[iC (κ k:Nat),cD (upd pl k ⟨A,c,[(k:Int)]⟩ k)]
   rw[e2,<-e1,hG]
  show(upd pl k _ i).l=_
  by_cases e:i=k
  ·subst e;rw[bJ]
  rw[bD e];exact hpl i (by have:i<k+1:=hi;omega)
 replace h2:¬(k:Int)<(cs.l.length:Nat):=h2
 obtain rfl:k=cs.l.length:=by omega
 obtain⟨n,hn⟩:∃n,n=cs.l.length:=⟨_,rfl⟩
 obtain⟨u,hu⟩:∃u,u=rs.l.length:=⟨_,rfl⟩
 refine aA gT mxd ⟨[],bRg rs.l.length cs.l.length hrl,rfl,rfl,rfl,λ_ _=>?_⟩
 show Sd _ _ _ _ _ _
 refine gH tSd 3 (dI rs.l.length λ_=>cF cP) rfl (by rw[dB,cJ]) (tR λ_ _=>qG) ?_
 refine cG (λ_=>true) (λg:Nat×(Nat->Sl EntM)=>bOz rs mb g.1) (λg=>bIl ⟨a,b,md⟩ rs.l.length cs.l.length g.2) (λ_=>[mpF mb G]) (λg=>g.1<=rs.l.length/\∀j,j<g.1->Ek (g.2 j).l (jI κ cs.l.length (M (ρ j)))) (λg=>rs.l.length-g.1) λhM=>⟨bH hM (chg:=λg:Nat×(Nat->Sl EntM)=>bOz rs mb g.1) (bls:=λg=>bIl ⟨a,b,md⟩ rs.l.length cs.l.length g.2) (fls:=λ_=>[mpF mb G]) (0,λ_=>cP) ⟨aC _,λj hj=>absurd hj (aF _)⟩ rfl ⟨rfl,rfl,rfl,rfl,rfl⟩ ⟨rfl,trivial⟩ ⟨rfl,rfl,rfl,rfl,rfl,rfl,rfl⟩ bL aWa rfl,λ⟨k,Y⟩ ⟨hk,hY⟩=>aA gT mxd ⟨λh3=>aA gT mxd ?_,λh3=>aA gT mxd ?_⟩⟩
 all_goals
  replace hk:k<=rs.l.length:=hk
  replace hY:∀j,j<k->Ek (Y j).l (jI κ cs.l.length (M (ρ j))):=hY
 ·replace h3:(k:Int)<(rs.l.length:Nat):=h3
  have hkn:k<rs.l.length:=by omega
  obtain⟨r1,r2⟩:=hA.r k hkn
  have hrow:=h.row _ r2
  have hok:=h.ok _ r2
  have hbr:=hb _ r2
  have hle:(md.l.getD (ρ k) cP).l.length=(M (ρ k)).length:=hrow.ln
  have hdl:md.l.length=a:=h.ln
  refine⟨k,⟨rfl,hkn⟩,ρ k,⟨r1,by show ρ k<md.l.length;omega⟩,?_⟩
  show Sd _ _ _ _ _ _
  refine aIp 15 82 4 rfl bL ?_
  refine cG (λ_=>true) (λg:Nat×List EntM=>aSj (md.l.getD (ρ k) cP) rs mb k g.1 g.2.length) (λg=>aOg ⟨a,b,md⟩ rs.l.length cs.l.length Y g.2) (λ_=>[mpF mb G]) (λg=>g.1<=(M (ρ k)).length/\Ek g.2 (jI κ cs.l.length ((M (ρ k)).take g.1))) (λg=>(M (ρ k)).length-g.1) λhM2=>⟨bH hM2 (chg:=λg:Nat×List EntM=>aSj (md.l.getD (ρ k) cP) rs mb k g.1 g.2.length) (bls:=λg=>aOg ⟨a,b,md⟩ rs.l.length cs.l.length Y g.2) (fls:=λ_=>[mpF mb G]) (0,[]) ⟨aC _,⟨rfl,λk hk=>absurd hk (aF _)⟩⟩ rfl ⟨rfl,rfl,rfl,rfl,rfl,rfl⟩ ⟨rfl,trivial⟩ ⟨rfl,rfl,rfl,rfl,rfl,rfl,rfl,rfl,rfl,rfl,rfl,rfl⟩ bL aDk rfl,λ⟨t,L⟩ ⟨ht,hL⟩=>Sd.sq (aA gT mxd (Sd.sq (aA gT mxd ⟨λh4=>aA gT mxd ?_,λh4=>aA gT mxd ?_⟩)))⟩
  all_goals
   replace ht:t<=(M (ρ k)).length:=ht
   replace hL:Ek L (jI κ cs.l.length ((M (ρ k)).take t)):=hL
  ·replace h4:(t:Int)<((md.l.getD (ρ k) cP).l.length:Nat):=h4
   have htl:t<(M (ρ k)).length:=by omega
   have hte:t<(md.l.getD (ρ k) cP).l.length:=by omega
   have he:=hrow.e t htl
   have hcl2:(jI κ cs.l.length ((M (ρ k)).take t)).length<=t:=aJ (uB _ _) (by rw[bE];omega)
   have hLl:=hL.ln
   have hMl:=hok.2
   refine Sd.cut (σ:=List EntM) (λL'=>⟨aSj (md.l.getD (ρ k) cP) rs mb k t L'.length++[],[],aOg ⟨a,b,md⟩ rs.l.length cs.l.length Y L',[mpF mb G]⟩) (λL'=>Ek L' (jI κ cs.l.length ((M (ρ k)).take (t+1)))) ?_ λL' hL'=>?_
   ·refine aA gT mxd ?_
    refine⟨t,⟨rfl,hte⟩,0,0,⟨Nat.one_pos,rfl⟩,λi c' h5 h6=>?_,λh5=>?_⟩
    ·rw[show(mpF mb G).get 0=kvL κ (λi=>cD (pl i)) cs.l.length from hG] at h5 h6
     obtain⟨hi,hz,hc'⟩:=aBx h5 h6
     subst hc'
     have hpi:=hpl i hi
     have hpn:(pl i).l.length=1:=by rw[hpi];rfl
     have hcf:=aHf hA.m htl hi (he.1.symm.trans hz)
     show Sd _ _ _ _ _ _
     refine cG (λ_=>true) (λg:Nat×List EntM=>bIm (md.l.getD (ρ k) cP) rs mb k t g.2.length (cD (pl i)) (pl i).l.length g.1) (λg=>aYm ⟨a,b,md⟩ rs.l.length cs.l.length Y g.2 ((md.l.getD (ρ k) cP).l.getD t default)) (λ_=>[mpF mb G]) (λg=>g.1<=1/\(g.1=0->g.2=L)/\(g.1=1->Ek g.2 (jI κ cs.l.length ((M (ρ k)).take (t+1))))) (λg=>1-g.1) λhM3=>⟨bH hM3 (chg:=λg:Nat×List EntM=>bIm (md.l.getD (ρ k) cP) rs mb k t g.2.length (cD (pl i)) (pl i).l.length g.1) (bls:=λg=>aYm ⟨a,b,md⟩ rs.l.length cs.l.length Y g.2 ((md.l.getD (ρ k) cP).l.getD t default)) (fls:=λ_=>[mpF mb G]) (0,L) ⟨aC _,λ_=>rfl,λh=>by cases h⟩ rfl ⟨rfl,rfl,rfl,rfl,rfl,rfl,rfl⟩ ⟨rfl,trivial⟩ ⟨rfl,rfl,rfl,rfl,rfl,rfl,rfl,rfl,rfl,rfl,rfl,rfl,rfl,rfl,rfl,rfl⟩ bL aKy rfl,λ⟨z,L'⟩ ⟨hz1,hz2,hz3⟩=>aA gT mxd ⟨λh7=>aA gT mxd ?_,λh7=>aA gT mxd ?_⟩⟩
     all_goals
      replace hz1:z<=1:=hz1
      replace hz2:z=0->L'=L:=hz2
      replace hz3:z=1->Ek L' (jI κ cs.l.length ((M (ρ k)).take (t+1))):=hz3
     ·replace h7:(z:Int)<((pl i).l.length:Nat):=h7
      have hz0:z=0:=by omega
      have hLL:L'=L:=hz2 hz0
      have hL1:Ek L' (jI κ cs.l.length ((M (ρ k)).take t)):=by rw[hLL];exact hL
      have hLl1:=hL1.ln
      have hix:(pl i).l.getD z 0=(i:Nat):=by rw[hpi,hz0];rfl
      refine⟨z,⟨rfl,by omega⟩,[],nZ ((md.l.getD (ρ k) cP).l.getD t default).v (he.2.le hB),rfl,rfl,rfl,λg hg=>⟨⟨rfl,(gM _).symm,by show L'.length+1<=maxLen;simp only[maxLen];omega,by show(L'.length+1)*64<=_;omega,λc hc=>(aQ.1 hc).elim (λh=>cY (gN L' c h)) (mK ⟨(pl i).l.getD z 0,g⟩ c)⟩,(λc hc=>cY (aX (λ_ _=>rfl) c hc)),mK ⟨(pl i).l.getD z 0,g⟩,(z+1:Nat),wi,bH hM3 (chg:=λg:Nat×List EntM=>bIm (md.l.getD (ρ k) cP) rs mb k t g.2.length (cD (pl i)) (pl i).l.length g.1) (bls:=λg=>aYm ⟨a,b,md⟩ rs.l.length cs.l.length Y g.2 ((md.l.getD (ρ k) cP).l.getD t default)) (fls:=λ_=>[mpF mb G]) (z+1,L'++[⟨(pl i).l.getD z 0,g⟩]) ⟨⟨by show z+1<=1;omega,λh=>absurd h (Nat.succ_ne_zero z),λ_=>?_⟩,show 1-(z+1)<1-z by omega⟩ rfl ⟨rfl,rfl,rfl,rfl,rfl,?_,rfl⟩ ⟨rfl,trivial⟩ ⟨rfl,rfl,rfl,rfl,rfl,rfl,rfl,?_,rfl,rfl,rfl,rfl,rfl,rfl,rfl,rfl⟩ bL aKy rfl⟩⟩
      ·show Ek (L'++[⟨(pl i).l.getD z 0,g⟩]) _
       rw[hcf,hix];exact vK hL1 hg
      ·show(_,_,_)=(_,_,_)
       rw[<-qF];rfl
      show L'.length+1=(L'++[_]).length
      rw[aE];rfl
     replace h7:¬(z:Int)<((pl i).l.length:Nat):=h7
     exact(bH hM2 (chg:=λL':List EntM=>aSj (md.l.getD (ρ k) cP) rs mb k t L'.length) (bls:=λL'=>aOg ⟨a,b,md⟩ rs.l.length cs.l.length Y L') (fls:=λ_=>[mpF mb G]) L' (hz3 oM) rfl ⟨rfl,rfl,rfl,rfl,rfl,rfl⟩ ⟨rfl,trivial⟩ ⟨rfl,rfl,rfl,rfl,rfl,rfl,rfl,rfl,rfl,rfl,rfl,rfl⟩ bL aDk rfl)
    have hno:∀j,j<cs.l.length->((κ j:Nat):Int)≠((M (ρ k)).getD t default).1:=λj hj e=>by
     rw[show(mpF mb G).get 0=kvL κ (λi=>cD (pl i)) cs.l.length from hG] at h5
     have h6:=aFk (x:=κ) (V:=λi=>cD (pl i)) hj
     exact h5 j _ (h6.1.trans (congrArg (λz=>some (iC z)) (e.trans he.1.symm))) h6.2
    show Sd _ _ _ _ _ _
    refine cG (λ_=>true) (λ_:Unit=>bIm (md.l.getD (ρ k) cP) rs mb k t L.length (.v (.slice none 0 0)) 0 0) (λ_=>aYm ⟨a,b,md⟩ rs.l.length cs.l.length Y L ((md.l.getD (ρ k) cP).l.getD t default)) (λ_=>[mpF mb G]) (λ_=>True) (λ_=>0) λhM3=>⟨bH hM3 (chg:=λ_:Unit=>bIm (md.l.getD (ρ k) cP) rs mb k t L.length (.v (.slice none 0 0)) 0 0) (bls:=λ_=>aYm ⟨a,b,md⟩ rs.l.length cs.l.length Y L ((md.l.getD (ρ k) cP).l.getD t default)) (fls:=λ_=>[mpF mb G]) () trivial rfl ⟨rfl,rfl,rfl,rfl,rfl,rfl,rfl⟩ ⟨rfl,trivial⟩ ⟨rfl,rfl,rfl,rfl,rfl,rfl,rfl,rfl,rfl,rfl,rfl,rfl,rfl,rfl,rfl,rfl⟩ bL aKy rfl,λ_ _=>aA gT mxd ⟨λh7=>absurd h7 (show ¬((0:Nat):Int)<((0:Nat):Int) by omega),λh7=>aA gT mxd ?_⟩⟩
    refine(bH hM2 (chg:=λL':List EntM=>aSj (md.l.getD (ρ k) cP) rs mb k t L'.length) (bls:=λL'=>aOg ⟨a,b,md⟩ rs.l.length cs.l.length Y L') (fls:=λ_=>[mpF mb G]) L ?_ rfl ⟨rfl,rfl,rfl,rfl,rfl,rfl⟩ ⟨rfl,trivial⟩ ⟨rfl,rfl,rfl,rfl,rfl,rfl,rfl,rfl,rfl,rfl,rfl,rfl⟩ bL aDk rfl)
    show Ek L (jI κ cs.l.length ((M (ρ k)).take (t+1)))
    rw[aHe htl hno];exact hL
   exact aA gT mxd ⟨(t+1:Nat),wi,bH hM2 (chg:=λg:Nat×List EntM=>aSj (md.l.getD (ρ k) cP) rs mb k g.1 g.2.length) (bls:=λg=>aOg ⟨a,b,md⟩ rs.l.length cs.l.length Y g.2) (fls:=λ_=>[mpF mb G]) (t+1,L') ⟨⟨htl,hL'⟩,show(M (ρ k)).length-(t+1)<(M (ρ k)).length-t by omega⟩ rfl ⟨rfl,rfl,rfl,rfl,rfl,rfl⟩ ⟨rfl,trivial⟩ ⟨rfl,rfl,rfl,rfl,rfl,rfl,rfl,rfl,rfl,rfl,rfl,rfl⟩ bL aDk rfl⟩
  replace h4:¬(t:Int)<((md.l.getD (ρ k) cP).l.length:Nat):=h4
  obtain rfl:t=(M (ρ k)).length:=by omega
  rw[cW] at hL
  have hvk:=yH hA.m hok.1
  have hvl:=kW hvk
  have hLl:=hL.ln
  have hm:=h.r
  show Sd _ _ _ _ _ _
  refine Sd.sq (aA gT mxd ⟨none,[5],bRq cNa L rfl oM,rfl,rfl,rfl,λzs hz=>rT 15 5 (λj=>(zs.getD j default).C) rfl rfl (λj hj=>?_) ?_ bL (gN zs) bL λA c _ _=>⟨λc hc=>cY (aX (λ_ _=>rfl) c hc),aA gT mxd ⟨k,⟨rfl,hkn,cQ hkn⟩,_,gU (c:=.r A L.length c 4 λj=>(zs.getD j default).C) (Q:=λj=>cF (upd Y k ⟨A,c,zs⟩ j)) hkn (λj _=>?_),(k+1:Nat),wi,bH hM (chg:=λg:Nat×(Nat->Sl EntM)=>bOz rs mb g.1) (bls:=λg=>bIl ⟨a,b,md⟩ rs.l.length cs.l.length g.2) (fls:=λ_=>[mpF mb G]) (k+1,upd Y k ⟨A,c,zs⟩) ⟨⟨hkn,λj hj=>?_⟩,show rs.l.length-(k+1)<rs.l.length-k by omega⟩ rfl ⟨rfl,rfl,rfl,rfl,rfl⟩ ⟨rfl,trivial⟩ ⟨rfl,rfl,rfl,rfl,rfl,rfl,rfl⟩ bL aWa rfl⟩⟩⟩)
  all_goals
   obtain⟨hz1,hz2⟩:=hz
   have hzl:zs.length=L.length:=hz1.length_eq
  ·exact rX zs j (by rw[hzl];exact hj)
  ·rw[gM,hzl]
  ·by_cases e:j=k
   ·subst e;rw[if_pos rfl,bJ]
    show _=CV.r A zs.length c 4 λj=>(zs.getD j default).C
    rw[hzl]
   rw[if_neg e,bD e]
  show Ek (upd Y k ⟨A,c,zs⟩ j).l _
  by_cases e:j=k
  ·subst e;rw[bJ];exact bPa hz1 hz2 hL hvk
  rw[bD e];exact hY j (by have:j<k+1:=hj;omega)
 replace h3:¬(k:Int)<(rs.l.length:Nat):=h3
 obtain rfl:k=rs.l.length:=by omega
 show Sd _ _ _ _ _ _
 refine jV tSd 3 rfl bL (aX λ_ _=>rfl) bL rfl λA2 c2=>?_
 refine iX tSd 4 1 [iC rs.l.length,iC cs.l.length,mL ⟨A2.map λb=>⟨b,0,none⟩,c2,kS Y rs.l.length⟩] rfl rfl rfl rfl (vL (k0:=2) rfl vM) (aA gT mxd ⟨⟨rs.l.length,cs.l.length,⟨A2.map λb=>⟨b,0,none⟩,c2,kS Y rs.l.length⟩⟩,⟨rfl,rfl,nJ,λj hj=>?_,λj hj=>?_⟩,aM ⟨rfl,rfl⟩ rfl trivial⟩)
 ·show Ek ((kS Y rs.l.length).getD j cP).l _
  rw[qH hj];exact hY j hj
 have hvk:=yH (n:=cs.l.length) hA.m (h.ok _ (hA.r j hj).2).1
 exact⟨hvk,kW hvk⟩
structure CorM where
 c:Sl Int
 r:Sl Int
 f:LuM
def CorM.C (x:CorM):List CV:=[cD x.c,cD x.r,cD x.f.R,cD x.f.K,iC x.f.L.r,iC x.f.L.c,mL x.f.L.d,iC x.f.U.r,iC x.f.U.c,mL x.f.U.d]
abbrev cCi:List CV:=[.v (.slice none 0 0),.v (.slice none 0 0),.v (.slice none 0 0),.v (.slice none 0 0),iC 0,iC 0,.v (.slice none 0 0),iC 0,iC 0,.v (.slice none 0 0)]
noncomputable abbrev bcL (b:BasM) (n:Nat):List Int:=gF (λj=>b.c.l.getD j 0=2) n
noncomputable abbrev brL (b:BasM) (n:Nat):List Int:=gF (λi=>b.r.l.getD i 0≠2) n
def atN (l:List Int) (k:Nat):Nat:=(l.getD k 0).toNat
structure BasOk (p:ProgM) (b:BasM):Prop where
 c:b.c.l.length=p.c.l.length
 r:b.r.l.length=p.r.l.length
 pc:∀j,j<p.c.l.length->Pmt (p.c.l.getD j default) (b.c.l.getD j 0)
 pr:∀i,i<p.r.l.length->b.r.l.getD i 0=2\/b.r.l.getD i 0=dfR (p.r.l.getD i default).s
noncomputable def zE (p:ProgM) (q:PrQ) (b:BasM) (k:Nat):List En:=jI (atN (bcL b p.c.l.length)) (bcL b p.c.l.length).length (q.M (atN (brL b p.r.l.length) k))
structure BVal (p:ProgM) (q:PrQ) (b:BasM):Prop where
 ok:BasOk p b
 n:(bcL b p.c.l.length).length=(brL b p.r.l.length).length
 k:¬Ker (zE p q b) (brL b p.r.l.length).length
section sel
variable {P:Nat->Prop}
theorem oX:∀{n:Nat} {z:Int},z∈gF P n↔∃k:Nat,z=(k:Nat)/\k<n/\P k
 |0,z=>⟨λh=>(by cases h),λ⟨k,_,h,_⟩=>absurd h (aF k)⟩
 |n+1,z=>by
  by_cases hp:P n
  ·rw[jP hp,aQ,oX,aH]
   constructor
   ·rintro(⟨k,h1,h2,h3⟩|h)
    ·exact⟨k,h1,by omega,h3⟩
    exact⟨n,h,by omega,hp⟩
   rintro⟨k,h1,h2,h3⟩
   rcases cN (cX h2) with h4|h4
   ·exact .inl ⟨k,h1,h4,h3⟩
   exact .inr (by rw[h1,h4])
  rw[mF hp,oX]
  constructor
  ·rintro⟨k,h1,h2,h3⟩;exact⟨k,h1,by omega,h3⟩
  rintro⟨k,h1,h2,h3⟩
  rcases cN (cX h2) with h4|h4
  ·exact⟨k,h1,h4,h3⟩
  rw[h4] at h3;exact absurd h3 hp
theorem aFr:∀n,(gF P n).Pairwise (·<·)
 |0=>List.Pairwise.nil
 |n+1=>by
  by_cases hp:P n
  ·rw[jP hp]
   refine eR.2 ⟨aFr n,eJ _ _,λz hz y hy=>?_⟩
   obtain⟨k,h1,h2,_⟩:=oX.1 hz
   rw[aH.1 hy,h1];omega
  rw[mF hp];exact aFr n
theorem fL (n:Nat):Enm P n (gF P n).length (atN (gF P n))/\∀k,k<(gF P n).length->(gF P n).getD k 0=(atN (gF P n) k:Nat):=by
 have h0:∀k,k<(gF P n).length->∃m:Nat,(gF P n).getD k 0=(m:Nat)/\m<n/\P m:=λk hk=>by
  have hm:(gF P n).getD k 0∈gF P n:=by rw[aD,aG hk];exact jK hk
  exact oX.1 hm
 have h1:∀k,k<(gF P n).length->(gF P n).getD k 0=(atN (gF P n) k:Nat):=λk hk=>by
  obtain⟨m,h2,_⟩:=h0 k hk
  unfold atN;rw[h2];rfl
 refine⟨⟨λk hk=>?_,λk l hkl hl=>?_,λk hk=>?_,λj hj hp=>?_⟩,h1⟩
 ·obtain⟨m,h2,h3,_⟩:=h0 k hk
  have:=h1 k hk
  omega
 ·have h2:=gG.1 (aFr (P:=P) n) k l oM hl hkl
  have h3:=h1 k oM
  have h4:=h1 l hl
  rw[aD,aG oM] at h3
  rw[aD,aG hl] at h4
  simp only[Option.getD_some] at h3 h4
  omega
 ·obtain⟨m,h2,_,h3⟩:=h0 k hk
  have:=h1 k hk
  rw[show atN (gF P n) k=m by omega];exact h3
 obtain⟨k,hk,h2⟩:=List.getElem_of_mem (oX.2 ⟨j,rfl,hj,hp⟩)
 refine⟨k,hk,?_⟩
 have:=h1 k hk
 rw[aD,aG hk] at this
 simp only[Option.getD_some] at this
 omega
end sel
theorem bPb (p:ProgM) (b:BasM) (C R:Sl Int) (hC:C.l=bcL b p.c.l.length) (hR:R.l=brL b p.r.l.length) (hc:p.c.l.length<=4096) (hr:p.r.l.length<=4096):CofA p R C (atN (brL b p.r.l.length)) (atN (bcL b p.c.l.length)):=by
 obtain⟨e1,e2⟩:=fL (P:=λj=>b.c.l.getD j 0=2) p.c.l.length
 obtain⟨f1,f2⟩:=fL (P:=λi=>b.r.l.getD i 0≠2) p.r.l.length
 have l1:=iD (P:=λj=>b.c.l.getD j 0=2) (k:=p.c.l.length)
 have l2:=iD (P:=λi=>b.r.l.getD i 0≠2) (k:=p.r.l.length)
 exact⟨λk hk=>by rw[hR] at hk ⊢;exact⟨f2 k hk,f1.lt k hk⟩,λk hk=>by rw[hC] at hk ⊢;exact⟨e2 k hk,e1.lt k hk⟩,λk l hkl hl=>by rw[hC] at hl;exact e1.mono k l hkl hl,by rw[hR];exact aJ l2 hr,by rw[hC];exact aJ l1 hc⟩
abbrev ncB (p:ProgM) (b:BasM) (L R:List Int):BL:=[(42,0,p.C),(45,0,b.C),(113,0,cCi),(113,0,[.s 4 L.length,.s 5 R.length,.v (.slice none 0 0),.v (.slice none 0 0),iC 0,iC 0,.v (.slice none 0 0),iC 0,iC 0,.v (.slice none 0 0)]),(3,1,L.map iC),(3,1,R.map iC)]
theorem aCb {p:ProgM} {b:BasM} {L R:List Int}:scB 6 (ncB p b L R):=aB rfl (aB rfl (aB rfl (aB rfl (aB (bU (bK _)) (aB (bU (bK _)) aY)))))
abbrev bPc (b:BasM) (k:Nat):List (Nat×DV):=[(33,.c (iC k)),(2,.c (.p 0 0)),(3,.c (.p 1 0)),(4,.c (.p 2 0)),(6,.c (.p 3 0)),(31,.c (cD b.c)),(32,.c (iC (b.c.l.length:Nat)))]
abbrev bPd (b:BasM) (k:Nat):List (Nat×DV):=[(59,.c (iC k)),(2,.c (.p 0 0)),(3,.c (.p 1 0)),(4,.c (.p 2 0)),(6,.c (.p 3 0)),(57,.c (cD b.r)),(58,.c (iC (b.r.l.length:Nat)))]
abbrev cCj:=Option (CorM×(Nat->Nat)×(Nat->Nat)×(Nat->List En)×(Nat->List En))
structure CorI (p:ProgM) (q:PrQ) (b:BasM) (F:Nat) (x:CorM) (rw cl:Nat->Nat) (Lw Up:Nat->List En):Prop where
 v:BVal p q b
 c:x.c.l=bcL b p.c.l.length
 r:x.r.l=brL b p.r.l.length
 f:LuG x.f (zE p q b) (brL b p.r.l.length).length rw cl Lw Up F
abbrev cCk:FuncId:=64
theorem cTq:Ent Tryz.prog cCk:=aU func64 rfl kR
theorem cTr:Tryz.prog.funcs[cCk]? =some Tryz.f64:=func64
theorem bSh (p:ProgM) (b:BasM) {q:PrQ} {B:Nat} (h:PrV p q B) (hr:p.r.l.length<=12) (hB:bd B (p.r.l.length-1)<=4398046511104):Ctr Tryz.prog cCk [] [.a p.C,.a b.C] [] (λg:cCj=>match g with
 |none=>⟨.t [.a cCi,.c (.v (.bool false))],[],¬BVal p q b⟩
 |some (x,rw,cl,Lw,Up)=>⟨.t [.a x.C,.c (.v (.bool true))],[],CorI p q b (bd B (brL b p.r.l.length).length) x rw cl Lw Up⟩):=by
 have hpc:=h.c
 have no:¬BVal p q b->∃g:cCj,(match g with|none=>(¬BVal p q b)|some _=>False):=λhh=>⟨none,hh⟩
 refine aW gT cTq cTr rfl rfl rfl bL aS (Sd.sq (aA gT mxd (Sd.sq (aA gT mxd (vS 3 0 3 1 rfl rfl bL rfl (vS 3 1 3 1 rfl rfl bL rfl (aA gT mxd ⟨λh2=>aA gT mxd ?_,λh2=>aA gT mxd ?_⟩)))))))
 ·replace h2:((b.c.l.length:Nat):Int)≠(p.c.l.length:Nat)\/((b.r.l.length:Nat):Int)≠(p.r.l.length:Nat):=h2
  exact⟨none,λhh=>by have:=hh.ok.c;have:=hh.ok.r;omega,aM ⟨rfl,rfl⟩ rfl trivial⟩
 replace h2:¬(((b.c.l.length:Nat):Int)≠(p.c.l.length:Nat)\/((b.r.l.length:Nat):Int)≠(p.r.l.length:Nat)):=h2
 have hbc:b.c.l.length=p.c.l.length:=by omega
 have hbr:b.r.l.length=p.r.l.length:=by omega
 show Sd _ _ _ _ _ _
 refine cG (λ_=>true) (λk:Nat=>bPc b k) (λk=>ncB p b (bcL b k) []) (λ_=>[]) (λk=>k<=p.c.l.length/\∀j,j<k->Pmt (p.c.l.getD j default) (b.c.l.getD j 0)) (λk=>p.c.l.length-k) λhM=>⟨bH hM (chg:=λk:Nat=>bPc b k) (bls:=λk=>ncB p b (bcL b k) []) (fls:=λ_=>[]) 0 ⟨aC _,λj hj=>absurd hj (aF _)⟩ rfl ⟨rfl,rfl,rfl,rfl,rfl,rfl⟩ trivial ⟨rfl,rfl,rfl,rfl,rfl,rfl,rfl⟩ bL aCb rfl,λk ⟨hk,hp⟩=>aA gT mxd ⟨λh3=>aA gT mxd ?_,λh3=>aA gT mxd ?_⟩⟩
 ·replace h3:(k:Int)<(b.c.l.length:Nat):=h3
  have hkn:k<p.c.l.length:=by omega
  have hkb:k<b.c.l.length:=by omega
  have hll:(bcL b k).length<=k:=iD
  refine⟨k,⟨rfl,hkb⟩,k,⟨rfl,hkn⟩,[],bRv (p.c.l.getD k default) (b.c.l.getD k 0),rfl,rfl,rfl,λ_ _=>⟨λh4=>aA gT mxd ?_,λh4=>aA gT mxd ⟨λh5=>aA gT mxd ?_,λh5=>aA gT mxd ?_⟩⟩⟩
  ·replace h4:¬Pmt (p.c.l.getD k default) (b.c.l.getD k 0):=h4
   exact⟨none,λhh=>h4 (hh.ok.pc k hkn),aM ⟨rfl,rfl⟩ rfl trivial⟩
  all_goals
   replace h4:Pmt (p.c.l.getD k default) (b.c.l.getD k 0):=eE.1 h4
   have hp':∀j,j<k+1->Pmt (p.c.l.getD j default) (b.c.l.getD j 0):=λj hj=>(cN (cX hj)).elim (hp j) λe=>e▸h4
  ·replace h5:b.c.l.getD k 0=2:=h5
   have hy:bcL b (k+1)=bcL b k++[(k:Int)]:=jP h5
   refine⟨apI (x:=bcL b k) (by show(bcL b k).length<=_;omega),(λc hc=>by cases hc),(λc hc=>by rw[aH.1 hc];rfl),(k+1:Nat),wi,bH hM (chg:=λk:Nat=>bPc b k) (bls:=λk=>ncB p b (bcL b k) []) (fls:=λ_=>[]) (k+1) ⟨⟨hkn,hp'⟩,show p.c.l.length-(k+1)<p.c.l.length-k by omega⟩ rfl ⟨rfl,rfl,rfl,?_,?_,rfl⟩ trivial ⟨rfl,rfl,rfl,rfl,rfl,rfl,rfl⟩ bL aCb rfl⟩
   ·show(_,_,CV.s 4 ((bcL b k).length+1)::_)=(_,_,CV.s 4 (bcL b (k+1)).length::_)
    rw[show(bcL b (k+1)).length=(bcL b k).length+1 by rw[hy];simp];rfl
   show(_,_,(bcL b k).map iC++[iC (k:Nat)])=(_,_,(bcL b (k+1)).map iC)
   rw[hy,bG];rfl
  replace h5:¬b.c.l.getD k 0=2:=h5
  have hy:bcL b (k+1)=bcL b k:=mF h5
  refine⟨(k+1:Nat),wi,bH hM (chg:=λk:Nat=>bPc b k) (bls:=λk=>ncB p b (bcL b k) []) (fls:=λ_=>[]) (k+1) ⟨⟨hkn,hp'⟩,show p.c.l.length-(k+1)<p.c.l.length-k by omega⟩ rfl ⟨rfl,rfl,rfl,?_,?_,rfl⟩ trivial ⟨rfl,rfl,rfl,rfl,rfl,rfl,rfl⟩ bL aCb rfl⟩
  ·show(_,_,CV.s 4 (bcL b k).length::_)=(_,_,CV.s 4 (bcL b (k+1)).length::_)
   rw[show bcL b (k+1)=bcL b k from hy]
  show(_,_,(bcL b k).map iC)=(_,_,(bcL b (k+1)).map iC)
  rw[show bcL b (k+1)=bcL b k from hy]
 replace h3:¬(k:Int)<(b.c.l.length:Nat):=h3
 obtain rfl:k=p.c.l.length:=by omega
 refine aA gT mxd ?_
 show Sd _ _ _ _ _ _
 refine cG (λ_=>true) (λk:Nat=>bPd b k) (λk=>ncB p b (bcL b p.c.l.length) (brL b k)) (λ_=>[]) (λk=>k<=p.r.l.length/\∀i,i<k->b.r.l.getD i 0=2\/b.r.l.getD i 0=dfR (p.r.l.getD i default).s) (λk=>p.r.l.length-k) λhM=>⟨bH hM (chg:=λk:Nat=>bPd b k) (bls:=λk=>ncB p b (bcL b p.c.l.length) (brL b k)) (fls:=λ_=>[]) 0 ⟨aC _,λj hj=>absurd hj (aF _)⟩ rfl ⟨rfl,rfl,rfl,rfl,rfl,rfl⟩ trivial ⟨rfl,rfl,rfl,rfl,rfl,rfl,rfl⟩ bL aCb rfl,λk ⟨hk,hq⟩=>aA gT mxd ⟨λh3=>aA gT mxd ?_,λh3=>aA gT mxd ?_⟩⟩
 ·replace h3:(k:Int)<(b.r.l.length:Nat):=h3
  have hkn:k<p.r.l.length:=by omega
  have hkb:k<b.r.l.length:=by omega
  have hll:(brL b k).length<=k:=iD
  refine⟨k,⟨rfl,hkb⟩,⟨λh4=>aA gT mxd ?_,λh4=>aA gT mxd ⟨k,⟨rfl,hkn⟩,[],bRx (p.r.l.getD k default),rfl,rfl,rfl,λ_ _=>⟨λh5=>aA gT mxd ?_,λh5=>aA gT mxd ?_⟩⟩⟩⟩
  ·replace h4:b.r.l.getD k 0=2:=h4
   have hy:brL b (k+1)=brL b k:=mF λhh=>hh h4
   have hq':∀i,i<k+1->b.r.l.getD i 0=2\/b.r.l.getD i 0=dfR (p.r.l.getD i default).s:=λj hj=>(cN (cX hj)).elim (hq j) λe=>e▸.inl h4
   refine⟨(k+1:Nat),wi,bH hM (chg:=λk:Nat=>bPd b k) (bls:=λk=>ncB p b (bcL b p.c.l.length) (brL b k)) (fls:=λ_=>[]) (k+1) ⟨⟨hkn,hq'⟩,show p.r.l.length-(k+1)<p.r.l.length-k by omega⟩ rfl ⟨rfl,rfl,rfl,?_,rfl,?_⟩ trivial ⟨rfl,rfl,rfl,rfl,rfl,rfl,rfl⟩ bL aCb rfl⟩
   ·show(_,_,_::CV.s 5 (brL b k).length::_)=(_,_,_::CV.s 5 (brL b (k+1)).length::_)
    rw[show brL b (k+1)=brL b k from hy]
   show(_,_,(brL b k).map iC)=(_,_,(brL b (k+1)).map iC)
   rw[show brL b (k+1)=brL b k from hy]
  ·replace h4:¬b.r.l.getD k 0=2:=h4
   replace h5:b.r.l.getD k 0≠dfR (p.r.l.getD k default).s:=h5
   exact⟨none,λhh=>(hh.ok.pr k hkn).elim h4 h5,aM ⟨rfl,rfl⟩ rfl trivial⟩
  replace h4:¬b.r.l.getD k 0=2:=h4
  replace h5:¬b.r.l.getD k 0≠dfR (p.r.l.getD k default).s:=h5
  have hy:brL b (k+1)=brL b k++[(k:Int)]:=jP h4
  have hq':∀i,i<k+1->b.r.l.getD i 0=2\/b.r.l.getD i 0=dfR (p.r.l.getD i default).s:=λj hj=>(cN (cX hj)).elim (hq j) λe=>e▸.inr (eE.1 h5)
  refine⟨apI (x:=brL b k) (by show(brL b k).length<=_;omega),(λc hc=>cY (bK _ c hc)),(λc hc=>by rw[aH.1 hc];rfl),(k+1:Nat),wi,bH hM (chg:=λk:Nat=>bPd b k) (bls:=λk=>ncB p b (bcL b p.c.l.length) (brL b k)) (fls:=λ_=>[]) (k+1) ⟨⟨hkn,hq'⟩,show p.r.l.length-(k+1)<p.r.l.length-k by omega⟩ rfl ⟨rfl,rfl,rfl,?_,rfl,?_⟩ trivial ⟨rfl,rfl,rfl,rfl,rfl,rfl,rfl⟩ bL aCb rfl⟩
  ·show(_,_,_::CV.s 5 ((brL b k).length+1)::_)=(_,_,_::CV.s 5 (brL b (k+1)).length::_)
   rw[show(brL b (k+1)).length=(brL b k).length+1 by rw[hy];simp];rfl
  show(_,_,(brL b k).map iC++[iC (k:Nat)])=(_,_,(brL b (k+1)).map iC)
  rw[hy,bG];rfl
 replace h3:¬(k:Int)<(b.r.l.length:Nat):=h3
 obtain rfl:k=p.r.l.length:=by omega
 have hok:BasOk p b:=⟨hbc,hbr,hp,hq⟩
 have hnl:(brL b p.r.l.length).length<=p.r.l.length:=iD
 show Sd _ _ _ _ _ _
 refine jV tSd 5 rfl bL (bK _) bL rfl λA a1=>⟨_,kV jN (bK _),iX tSd 3 0 [.s 4 (bcL b p.c.l.length).length,cD ⟨A.map λb=>⟨b,0,none⟩,a1,brL b p.r.l.length⟩,.v (.slice none 0 0),.v (.slice none 0 0),iC 0,iC 0,.v (.slice none 0 0),iC 0,iC 0,.v (.slice none 0 0)] rfl rfl rfl rfl (oT (k0:=1) rfl aCq) ?_⟩
 refine jV tSd 4 rfl bL (bK _) bL rfl λA2 a2=>⟨_,rfl,iX tSd 3 1 [cD ⟨A2.map λb=>⟨b,0,none⟩,a2,bcL b p.c.l.length⟩,cD ⟨A.map λb=>⟨b,0,none⟩,a1,brL b p.r.l.length⟩,.v (.slice none 0 0),.v (.slice none 0 0),iC 0,iC 0,.v (.slice none 0 0),iC 0,iC 0,.v (.slice none 0 0)] rfl rfl rfl rfl (oT (k0:=0) rfl aCq) ?_⟩
 obtain⟨C,hC⟩:∃C:Sl Int,C=⟨A2.map λb=>⟨b,0,none⟩,a2,bcL b p.c.l.length⟩:=⟨_,rfl⟩
 obtain⟨R,hR⟩:∃R:Sl Int,R=⟨A.map λb=>⟨b,0,none⟩,a1,brL b p.r.l.length⟩:=⟨_,rfl⟩
 rw[<-hC,<-hR]
 have hCl:C.l=bcL b p.c.l.length:=by rw[hC]
 have hRl:R.l=brL b p.r.l.length:=by rw[hR]
 refine aA gT mxd ⟨λh4=>aA gT mxd ?_,λh4=>aA gT mxd ⟨[],bRz p R C h (bPb p b C R hCl hRl hpc oM),rfl,rfl,rfl,λm hm=>?_⟩⟩
 ·replace h4:((C.l.length:Nat):Int)≠(R.l.length:Nat):=h4
  rw[hCl,hRl] at h4
  exact⟨none,λhh=>by have:=hh.n;omega,aM ⟨rfl,rfl⟩ rfl trivial⟩
 replace h4:¬((C.l.length:Nat):Int)≠(R.l.length:Nat):=h4
 replace hm:Mr m (λk=>jI (atN (bcL b p.c.l.length)) C.l.length (q.M (atN (brL b p.r.l.length) k))) R.l.length C.l.length B:=hm
 have hCR:C.l.length=R.l.length:=by omega
 have hn:(bcL b p.c.l.length).length=(brL b p.r.l.length).length:=by rw[<-hCl,<-hRl];exact hCR
 rw[hCR,hRl,<-hn,hn] at hm
 have hmE:Mr m (zE p q b) (brL b p.r.l.length).length (brL b p.r.l.length).length B:=by
  have e:zE p q b=λk=>jI (atN (bcL b p.c.l.length)) (brL b p.r.l.length).length (q.M (atN (brL b p.r.l.length) k)):=funext λk=>by unfold zE;rw[hn]
  rw[e];exact hm
 have hrb:rbM (zE p q b) (brL b p.r.l.length).length B:=λi hi=>aKr (h.e _ ((fL (P:=λi=>b.r.l.getD i 0≠2) p.r.l.length).1.lt i hi))
 refine⟨[],bGy m hmE hrb h.h1 (aJ (kT oM) hB) oM,rfl,rfl,rfl,λg hg=>?_⟩
 cases g with
 |none=>
  refine⟨λh5=>aA gT mxd ?_,λh5=>absurd (show((6:Int)≠0) by decide) h5⟩
  exact⟨none,λhh=>hh.k hg,aM ⟨rfl,rfl⟩ rfl trivial⟩
 |some g=>
  obtain⟨f,rw',cl,Lw,Up⟩:=g
  obtain⟨⟨g1,g2,g3,g4⟩,g5,g6,g7⟩:=hg
  refine⟨λh5=>absurd rfl h5,λh5=>aA gT mxd ⟨some (⟨C,R,f⟩,rw',cl,Lw,Up),⟨⟨hok,hn,g5.nk⟩,hCl,hRl,⟨g1,g2,g3,g4,g5,g6,g7⟩⟩,aM ⟨rfl,rfl⟩ rfl trivial⟩⟩
abbrev bPe:FuncId:=20
theorem cTs:Ent Tryz.prog bPe:=aU func20 rfl kR
theorem cTt:Tryz.prog.funcs[bPe]? =some Tryz.f20:=func20
theorem cNe (p:ProgM) (b:BasM) {q:PrQ} {B:Nat} (h:PrV p q B) (hr:p.r.l.length<=12) (hB:bd B (p.r.l.length-1)<=4398046511104):Ctr Tryz.prog bPe [] [.a p.C,.a b.C] [] (λ_:Unit=>⟨pC (BVal p q b),[],True⟩):=by
 refine aW gT cTs cTt rfl rfl rfl bL aS (aA gT mxd ⟨[],aKo p h,rfl,rfl,rfl,λ_ _=>⟨λhh=>absurd rfl hh,λ_=>aA gT mxd ⟨[],bSh p b h hr hB,rfl,rfl,rfl,λg hg=>?_⟩⟩⟩)
 cases g with
 |none=>exact⟨(),trivial,aM (ff hg) rfl trivial⟩
 |some g=>exact⟨(),trivial,aM (tt hg.v) rfl trivial⟩
abbrev cCl:FuncId:=70
theorem cTu:Ent Tryz.prog cCl:=aU func70 rfl kR
theorem cTv:Tryz.prog.funcs[cCl]? =some Tryz.f70:=func70
theorem bSi (p:ProgM) (b:BasM) {q:PrQ} {B:Nat} (h:PrV p q B) (hr:p.r.l.length<=12) (hB:bd B (p.r.l.length-1)<=4398046511104):Ctr Tryz.prog cCl [] [.a p.C,.a b.C] [] (λg:cCj=>match g with
 |none=>⟨.t [.a cCi,.c (iC 1)],[],¬BVal p q b⟩
 |some (x,rw,cl,Lw,Up)=>⟨.t [.a x.C,.c (iC 0)],[],CorI p q b (bd B (brL b p.r.l.length).length) x rw cl Lw Up⟩):=by
 refine aW gT cTu cTv rfl rfl rfl bL aS (aA gT mxd ⟨[],aKo p h,rfl,rfl,rfl,λ_ _=>⟨λhh=>absurd rfl hh,λ_=>aA gT mxd ⟨[],bSh p b h hr hB,rfl,rfl,rfl,λg hg=>?_⟩⟩⟩)
 cases g with
 |none=>exact⟨none,hg,aM ⟨rfl,rfl⟩ rfl trivial⟩
 |some g=>exact⟨some g,hg,aM ⟨rfl,rfl⟩ rfl trivial⟩
structure PrC (p:ProgM) (q:PrQ):Prop where
 k:∀j,j<p.c.l.length->Cr (p.c.l.getD j default).k (q.k j)
 b:∀i,i<p.r.l.length->Cr (p.r.l.getD i default).b (q.b i)
def x0N (q:PrQ) (b:BasM) (j:Nat):Rat:=if b.c.l.getD j 0=0 then q.l j else if b.c.l.getD j 0=1 then q.u j else 0
def rsN (q:PrQ) (b:BasM) (i t:Nat):Rat:=q.b i-dtl ((q.M i).take t) (x0N q b)
structure PtR (p:ProgM) (q:PrQ) (b:BasM) (Bx:Nat) (qs:List Rat):Prop where
 ln:qs.length=p.c.l.length
 x0:∀j,j<p.c.l.length->b.c.l.getD j 0≠2->lQ qs j=x0N q b j
 ti:∀i,i<p.r.l.length->b.r.l.getD i 0≠2->dtl (q.M i) (lQ qs)=q.b i
 rb:rbL qs Bx
abbrev aOh (x:CorM) (p:ProgM) (b:BasM) (X:Nat->RatM):BL:=[(113,0,x.C),(42,0,p.C),(45,0,b.C),(62,3,rtC p.c.l.length X)]
theorem aDl {x:CorM} {p:ProgM} {b:BasM} {X:Nat->RatM}:scB 4 (aOh x p b X):=aB rfl (aB rfl (aB rfl (aB (bU eM) aY)))
abbrev aOi (x:CorM) (p:ProgM) (b:BasM) (X Z:Nat->RatM):BL:=aOh x p b X++[(62,3,rtC x.r.l.length Z)]
theorem aAv {x:CorM} {p:ProgM} {b:BasM} {X Z:Nat->RatM}:scB 5 (aOi x p b X Z):=aB rfl (aB rfl (aB rfl (aB (bU eM) (aB (bU eM) aY))))
abbrev bIo (p:ProgM) (k:Nat):List (Nat×DV):=[(26,.c (iC k)),(24,.c (rZ p.c)),(25,.c (iC (p.c.l.length:Nat))),(3,.c (.p 0 0)),(4,.c (.p 1 0)),(5,.c (.p 2 0)),(7,.c (.s 3 p.c.l.length))]
abbrev bPf (x:CorM) (p:ProgM) (k:Nat):List (Nat×DV):=[(64,.c (iC k)),(62,.c (cD x.r)),(63,.c (iC (x.r.l.length:Nat))),(3,.c (.p 0 0)),(4,.c (.p 1 0)),(5,.c (.p 2 0)),(7,.c (.s 3 p.c.l.length)),(10,.c (.s 4 x.r.l.length))]
abbrev bPg (x:CorM) (p:ProgM) (k i t:Nat):List (Nat×DV):=(85,.c (iC t))::(83,.c (cF (p.r.l.getD i default).e))::(84,.c (iC ((p.r.l.getD i default).e.l.length:Nat)))::(11,.c (iC k))::bPf x p k
theorem bIp (b:BasM) (n:Nat):Enm (λj=>b.c.l.getD j 0=2) n (bcL b n).length (atN (bcL b n))/\∀k,k<(bcL b n).length->(bcL b n).getD k 0=(atN (bcL b n) k:Nat):=fL n
theorem bIq (b:BasM) (n:Nat):Enm (λi=>b.r.l.getD i 0≠2) n (brL b n).length (atN (brL b n))/\∀k,k<(brL b n).length->(brL b n).getD k 0=(atN (brL b n) k:Nat):=fL n
theorem bIr {q:PrQ} {b:BasM} {i:Nat}:rsN q b i 0=q.b i:=by
 unfold rsN;rw[sN,show dtl ([]:List En) (x0N q b)=0 from rfl];grind
theorem bIs {p:ProgM} {q:PrQ} {B:Nat} (h:PrV p q B) {b:BasM} {j:Nat} (hj:j<p.c.l.length):rb (x0N q b j) B:=by
 unfold x0N
 have hc:=h.rd.c j hj
 split
 ·exact hc.l.rb h.h1
 split
 ·exact hc.u.rb h.h1
 exact aAl h.h1
theorem bSj {p:ProgM} {q:PrQ} {B:Nat} (h:PrV p q B) {b:BasM} {i t:Nat} (hi:i<p.r.l.length) (ht:t<=(q.M i).length):rb (rsN q b i t) (2+B+p.c.l.length*(B+B+1)):=by
 have h1:=(h.rd.r i hi).b.rb h.h1
 have hv:=h.v i hi
 have h2:=aRw (x:=x0N q b) (es:=(q.M i).take t) (λe he=>h.e i hi e (cV he)) λe he=>bIs (b:=b) h (by have:=hv.2.2 e (cV he);omega)
 have h3:((q.M i).take t).length*(B+B+1)<=p.c.l.length*(B+B+1):=aZ _ (by rw[bE];have:=h.len hi;omega)
 exact(pV h1 h2).le oM
abbrev bPh (x:CorM) (p:ProgM) (b:BasM) (X W:Nat->RatM):BL:=aOh x p b X++[(62,3,[]),(62,3,rtC x.r.l.length W)]
theorem aWb {x:CorM} {p:ProgM} {b:BasM} {X W:Nat->RatM}:scB 6 (bPh x p b X W):=aB rfl (aB rfl (aB rfl (aB (bU eM) (aB rfl (aB (bU eM) aY)))))
abbrev cCm (x:CorM) (p:ProgM) (k:Nat):List (Nat×DV):=[(124,.c (iC k)),(122,.c (cD x.c)),(123,.c (iC (x.c.l.length:Nat))),(7,.c (.s 3 p.c.l.length)),(15,.c (.s 5 x.r.l.length))]
abbrev cCn:FuncId:=71
theorem cTw:Ent Tryz.prog cCn:=aU func71 rfl kR
theorem cTx:Tryz.prog.funcs[cCn]? =some Tryz.f71:=func71
theorem cNf (x:CorM) (p:ProgM) (b:BasM) {q:PrQ} {B:Nat} {rw cl:Nat->Nat} {Lw Up:Nat->List En} (h:PrV p q B) (hc:PrC p q) (hI:CorI p q b (bd B (brL b p.r.l.length).length) x rw cl Lw Up) (hS:yb (zb (2+B+p.c.l.length*(B+B+1)) (bd B (brL b p.r.l.length).length) (brL b p.r.l.length).length) (bd B (brL b p.r.l.length).length) (brL b p.r.l.length).length<=4398046511104):Ctr Tryz.prog cCn [] [.a x.C,.a p.C,.a b.C] [] (λg:Sl RatM×List Rat=>⟨.c (fI g.1),[],Rl g.1.l g.2/\PtR p q b (B+yb (zb (2+B+p.c.l.length*(B+B+1)) (bd B (brL b p.r.l.length).length) (brL b p.r.l.length).length) (bd B (brL b p.r.l.length).length) (brL b p.r.l.length).length) g.2⟩):=by
 obtain⟨m,hm⟩:∃m,m=(brL b p.r.l.length).length:=⟨_,rfl⟩
 obtain⟨F,hF⟩:∃F,F=bd B m:=⟨_,rfl⟩
 obtain⟨Br,hBr⟩:∃Br,Br=2+B+p.c.l.length*(B+B+1):=⟨_,rfl⟩
 obtain⟨Y,hY⟩:∃Y,Y=yb (zb Br F m) F m:=⟨_,rfl⟩
 rw[<-hm,<-hF,<-hBr,<-hY] at hS ⊢
 have hIf:=hI.f
 rw[<-hm,<-hF] at hIf
 have hpc:=h.c
 have hpr:=h.r
 have hBB:=h.hB
 have h1:=h.h1
 have hbok:=hI.v.ok
 have hxr:x.r.l.length=m:=by rw[hI.r,hm]
 have hxc:x.c.l.length=m:=by rw[hI.c,hI.v.n,hm]
 obtain⟨e1,e2⟩:=bIp b p.c.l.length
 obtain⟨f1,f2⟩:=bIq b p.r.l.length
 have hml:m<=p.r.l.length:=by rw[hm];exact iD
 have hBrS:Br<=4398046511104:=by
  have a1:zb Br F m<=Y:=by rw[hY];exact aNs (aC m)
  have a2:Br<=zb Br F m:=aVo (aC m)
  omega
 refine aW gT cTw cTx rfl rfl rfl bL aS (aA gT mxd ⟨p.c.l.length,⟨rfl,rfl,by show 56*_<=_;omega,by simp only[maxLen];omega⟩,?_⟩)
 show Sd _ _ _ _ _ _
 refine gH tSd 3 (rtC p.c.l.length λ_=>default) rfl lK.1 lK.2 ?_
 refine cG (λ_=>true) (λg:Nat×(Nat->RatM)=>bIo p g.1) (λg=>aOh x p b g.2) (λ_=>[]) (λg=>g.1<=p.c.l.length/\∀j,j<g.1->Cr (g.2 j) (x0N q b j)) (λg=>p.c.l.length-g.1) λhM=>⟨bH hM (chg:=λg:Nat×(Nat->RatM)=>bIo p g.1) (bls:=λg=>aOh x p b g.2) (fls:=λ_=>[]) (0,λ_=>default) ⟨aC _,λj hj=>absurd hj (aF _)⟩ rfl ⟨rfl,rfl,rfl,rfl⟩ trivial ⟨rfl,rfl,rfl,rfl,rfl,rfl,rfl⟩ bL aDl rfl,λ⟨k,X⟩ ⟨hk,hX⟩=>aA gT mxd ⟨λh2=>aA gT mxd ?_,λh2=>aA gT mxd ?_⟩⟩
 all_goals
  replace hk:k<=p.c.l.length:=hk
  replace hX:∀j,j<k->Cr (X j) (x0N q b j):=hX
 ·replace h2:(k:Int)<(p.c.l.length:Nat):=h2
  have hkn:k<p.c.l.length:=by omega
  have hbl:=hbok.c
  have hcol:=h.rd.c k hkn
  have fin:∀g:RatM,Cr g (x0N q b k)->∀j,j<k+1->Cr (upd X k g j) (x0N q b j):=λg hg j hj=>by
   by_cases e:j=k
   ·subst e;rw[bJ];exact hg
   rw[bD e];exact hX j oM
  refine⟨k,⟨rfl,hkn⟩,k,⟨rfl,by omega⟩,⟨λh3=>aA gT mxd ?_,λh3=>aA gT mxd ⟨λh4=>aA gT mxd ?_,λh4=>aA gT mxd ?_⟩⟩⟩
  ·replace h3:b.c.l.getD k 0=0:=h3
   have e:x0N q b k=q.l k:=if_pos h3
   exact⟨[],nZ (p.c.l.getD k default).l (hcol.l.le hBB),rfl,rfl,rfl,λg hg=>⟨k,⟨rfl,hkn,fF hkn⟩,_,gZ hkn,(k+1:Nat),wi,bH hM (chg:=λg:Nat×(Nat->RatM)=>bIo p g.1) (bls:=λg=>aOh x p b g.2) (fls:=λ_=>[]) (k+1,upd X k g) ⟨⟨hkn,fin g (by rw[e];exact hg)⟩,show p.c.l.length-(k+1)<p.c.l.length-k by omega⟩ rfl ⟨rfl,rfl,rfl,rfl⟩ trivial ⟨rfl,rfl,rfl,rfl,rfl,rfl,rfl⟩ bL aDl rfl⟩⟩
  ·replace h3:¬b.c.l.getD k 0=0:=h3
   replace h4:b.c.l.getD k 0=1:=h4
   have e:x0N q b k=q.u k:=(if_neg h3).trans (if_pos h4)
   exact⟨[],nZ (p.c.l.getD k default).u (hcol.u.le hBB),rfl,rfl,rfl,λg hg=>⟨k,⟨rfl,hkn,fF hkn⟩,_,gZ hkn,(k+1:Nat),wi,bH hM (chg:=λg:Nat×(Nat->RatM)=>bIo p g.1) (bls:=λg=>aOh x p b g.2) (fls:=λ_=>[]) (k+1,upd X k g) ⟨⟨hkn,fin g (by rw[e];exact hg)⟩,show p.c.l.length-(k+1)<p.c.l.length-k by omega⟩ rfl ⟨rfl,rfl,rfl,rfl⟩ trivial ⟨rfl,rfl,rfl,rfl,rfl,rfl,rfl⟩ bL aDl rfl⟩⟩
  replace h3:¬b.c.l.getD k 0=0:=h3
  replace h4:¬b.c.l.getD k 0=1:=h4
  have e:x0N q b k=((0:Int):Rat):=(if_neg h3).trans (if_neg h4)
  exact⟨[],yG (z:=0) dC,rfl,rfl,rfl,λg hg=>⟨k,⟨rfl,hkn,fF hkn⟩,_,gZ hkn,(k+1:Nat),wi,bH hM (chg:=λg:Nat×(Nat->RatM)=>bIo p g.1) (bls:=λg=>aOh x p b g.2) (fls:=λ_=>[]) (k+1,upd X k g) ⟨⟨hkn,fin g (by rw[e];exact hg)⟩,show p.c.l.length-(k+1)<p.c.l.length-k by omega⟩ rfl ⟨rfl,rfl,rfl,rfl⟩ trivial ⟨rfl,rfl,rfl,rfl,rfl,rfl,rfl⟩ bL aDl rfl⟩⟩
 replace h2:¬(k:Int)<(p.c.l.length:Nat):=h2
 obtain rfl:k=p.c.l.length:=by omega
 refine aA gT mxd ⟨x.r.l.length,⟨rfl,rfl,by show 56*_<=_;omega,by simp only[maxLen];omega⟩,?_⟩
 show Sd _ _ _ _ _ _
 refine gH tSd 4 (rtC x.r.l.length λ_=>default) rfl lK.1 lK.2 ?_
 refine cG (λ_=>true) (λg:Nat×(Nat->RatM)=>bPf x p g.1) (λg=>aOi x p b X g.2) (λ_=>[]) (λg=>g.1<=x.r.l.length/\∀j,j<g.1->Cr (g.2 j) (rsN q b (atN (brL b p.r.l.length) j) (q.M (atN (brL b p.r.l.length) j)).length)) (λg=>x.r.l.length-g.1) λhM=>⟨bH hM (chg:=λg:Nat×(Nat->RatM)=>bPf x p g.1) (bls:=λg=>aOi x p b X g.2) (fls:=λ_=>[]) (0,λ_=>default) ⟨aC _,λj hj=>absurd hj (aF _)⟩ rfl ⟨rfl,rfl,rfl,rfl,rfl⟩ trivial ⟨rfl,rfl,rfl,rfl,rfl,rfl,rfl,rfl⟩ bL aAv rfl,λ⟨k,Z⟩ ⟨hk,hZ⟩=>aA gT mxd ⟨λh3=>aA gT mxd ?_,λh3=>aA gT mxd ?_⟩⟩
 all_goals
  replace hk:k<=x.r.l.length:=hk
  replace hZ:∀j,j<k->Cr (Z j) (rsN q b (atN (brL b p.r.l.length) j) (q.M (atN (brL b p.r.l.length) j)).length):=hZ
 ·replace h3:(k:Int)<(x.r.l.length:Nat):=h3
  have hkn:k<x.r.l.length:=by omega
  have hkm:k<(brL b p.r.l.length).length:=by omega
  have r1:x.r.l.getD k 0=(atN (brL b p.r.l.length) k:Nat):=by rw[hI.r];exact f2 k hkm
  have r2:atN (brL b p.r.l.length) k<p.r.l.length:=f1.lt k hkm
  have hrow:=h.rd.r _ r2
  have hv:=h.v _ r2
  have hle:(p.r.l.getD (atN (brL b p.r.l.length) k) default).e.l.length=(q.M (atN (brL b p.r.l.length) k)).length:=hrow.e.ln
  have hlen:=h.len r2
  refine⟨k,⟨rfl,hkn⟩,atN (brL b p.r.l.length) k,⟨r1,r2⟩,k,⟨rfl,hkn,fF hkn⟩,_,gZ hkn,atN (brL b p.r.l.length) k,⟨r1,r2⟩,?_⟩
  show Sd _ _ _ _ _ _
  refine cG (λ_=>true) (λg:Nat×(Nat->RatM)=>bPg x p k (atN (brL b p.r.l.length) k) g.1) (λg=>aOi x p b X g.2) (λ_=>[]) (λg=>g.1<=(q.M (atN (brL b p.r.l.length) k)).length/\(∀j,j<k->Cr (g.2 j) (rsN q b (atN (brL b p.r.l.length) j) (q.M (atN (brL b p.r.l.length) j)).length))/\Cr (g.2 k) (rsN q b (atN (brL b p.r.l.length) k) g.1)) (λg=>(q.M (atN (brL b p.r.l.length) k)).length-g.1) λhM2=>⟨bH hM2 (chg:=λg:Nat×(Nat->RatM)=>bPg x p k (atN (brL b p.r.l.length) k) g.1) (bls:=λg=>aOi x p b X g.2) (fls:=λ_=>[]) (0,upd Z k (p.r.l.getD (atN (brL b p.r.l.length) k) default).b) ⟨aC _,λj hj=>?_,?_⟩ rfl ⟨rfl,rfl,rfl,rfl,rfl⟩ trivial ⟨rfl,rfl,rfl,rfl,rfl,rfl,rfl,rfl,rfl,rfl,rfl,rfl⟩ bL aAv rfl,λ⟨t,Z⟩ ⟨ht,hZ,hZk⟩=>aA gT mxd ⟨λh4=>aA gT mxd ?_,λh4=>aA gT mxd ?_⟩⟩
  ·show Cr (upd Z k _ j) _
   rw[bD oM];exact hZ j hj
  ·show Cr (upd Z k _ k) _
   rw[bJ,bIr];exact hc.b _ r2
  all_goals
   replace ht:t<=(q.M (atN (brL b p.r.l.length) k)).length:=ht
   replace hZ:∀j,j<k->Cr (Z j) (rsN q b (atN (brL b p.r.l.length) j) (q.M (atN (brL b p.r.l.length) j)).length):=hZ
   replace hZk:Cr (Z k) (rsN q b (atN (brL b p.r.l.length) k) t):=hZk
  ·replace h4:(t:Int)<((p.r.l.getD (atN (brL b p.r.l.length) k) default).e.l.length:Nat):=h4
   have htl:t<(q.M (atN (brL b p.r.l.length) k)).length:=by omega
   have hte:t<(p.r.l.getD (atN (brL b p.r.l.length) k) default).e.l.length:=by omega
   have he:=hrow.e.e t htl
   have hvt:=hv.2.2 _ (fO htl)
   obtain⟨e0,he0⟩:∃e0:Nat,((q.M (atN (brL b p.r.l.length) k)).getD t default).1=(e0:Nat):=⟨((q.M (atN (brL b p.r.l.length) k)).getD t default).1.toNat,by omega⟩
   have hec:e0<p.c.l.length:=by omega
   have hix:((p.r.l.getD (atN (brL b p.r.l.length) k) default).e.l.getD t default).ix=(e0:Nat):=he.1.trans he0
   have hx0:=hX e0 hec
   have rx0:=bIs (b:=b) h hec
   have re:=h.e _ r2 _ (fO htl)
   have hnx:rsN q b (atN (brL b p.r.l.length) k) (t+1)=rsN q b (atN (brL b p.r.l.length) k) t-((q.M (atN (brL b p.r.l.length) k)).getD t default).2*x0N q b e0:=by
    unfold rsN
    rw[aNw htl,he0,cL];grind
   have hrs:=bSj (b:=b) h r2 (t:=t) oM
   rw[<-hBr] at hrs
   have hmb:B+B<=4398046511104:=by
    have:1*(B+B+1)<=p.c.l.length*(B+B+1):=aZ _ oM
    omega
   refine⟨t,⟨rfl,hte⟩,e0,⟨hix,hec,fF hec⟩,_,mE hec,[],kH (X e0) (hx0.rq (rx0.le hBB)),rfl,rfl,rfl,λ_ _=>⟨λh5=>aA gT mxd ?_,λh5=>aA gT mxd ?_⟩⟩
   ·refine⟨.seq [(0,false),(1,false),(2,false),(3,false),(4,false),(5,false),(6,false),(7,false),(8,false),(9,false),(10,false),(11,false),(12,false),(13,false),(14,true),(15,false),(16,true)],by kernel_rfl,k,⟨rfl,hkn,fF hkn⟩,_,mE hkn,e0,⟨hix,hec,fF hec⟩,_,mE hec,[],xC ((p.r.l.getD (atN (brL b p.r.l.length) k) default).e.l.getD t default).v (X e0) (he.2.le hBB) (hx0.rq (rx0.le hBB)),rfl,rfl,rfl,λg hg=>⟨[],aJt (Z k) g (hZk.rq (hrs.le hBrS)) (Cr.rq hg ((gY re rx0).le hmb)),rfl,rfl,rfl,λd hd=>⟨k,⟨rfl,hkn,fF hkn⟩,_,gZ hkn,(t+1:Nat),wi,bH hM2 (chg:=λg:Nat×(Nat->RatM)=>bPg x p k (atN (brL b p.r.l.length) k) g.1) (bls:=λg=>aOi x p b X g.2) (fls:=λ_=>[]) (t+1,upd Z k d) ⟨⟨htl,λj hj=>?_,?_⟩,show(q.M (atN (brL b p.r.l.length) k)).length-(t+1)<(q.M (atN (brL b p.r.l.length) k)).length-t by omega⟩ rfl ⟨rfl,rfl,rfl,rfl,rfl⟩ trivial ⟨rfl,rfl,rfl,rfl,rfl,rfl,rfl,rfl,rfl,rfl,rfl,rfl⟩ bL aAv rfl⟩⟩⟩
    ·show Cr (upd Z k d j) _
     rw[bD oM];exact hZ j hj
    show Cr (upd Z k d k) (rsN q b _ (t+1))
    rw[bJ,hnx];exact hd
   have h0:x0N q b e0=0:=dH.1 (fS.1 (eE.1 h5))
   refine⟨(t+1:Nat),wi,bH hM2 (chg:=λg:Nat×(Nat->RatM)=>bPg x p k (atN (brL b p.r.l.length) k) g.1) (bls:=λg=>aOi x p b X g.2) (fls:=λ_=>[]) (t+1,Z) ⟨⟨htl,hZ,?_⟩,show(q.M (atN (brL b p.r.l.length) k)).length-(t+1)<(q.M (atN (brL b p.r.l.length) k)).length-t by omega⟩ rfl ⟨rfl,rfl,rfl,rfl,rfl⟩ trivial ⟨rfl,rfl,rfl,rfl,rfl,rfl,rfl,rfl,rfl,rfl,rfl,rfl⟩ bL aAv rfl⟩
   show Cr (Z k) (rsN q b _ (t+1))
   rw[hnx,h0,cA,aNt];exact hZk
  replace h4:¬(t:Int)<((p.r.l.getD (atN (brL b p.r.l.length) k) default).e.l.length:Nat):=h4
  have htt:t=(q.M (atN (brL b p.r.l.length) k)).length:=by omega
  rw[htt] at hZk
  exact⟨(k+1:Nat),wi,bH hM (chg:=λg:Nat×(Nat->RatM)=>bPf x p g.1) (bls:=λg=>aOi x p b X g.2) (fls:=λ_=>[]) (k+1,Z) ⟨⟨hkn,λj hj=>(cN (cX hj)).elim (hZ j) λe=>e▸hZk⟩,show x.r.l.length-(k+1)<x.r.l.length-k by omega⟩ rfl ⟨rfl,rfl,rfl,rfl,rfl⟩ trivial ⟨rfl,rfl,rfl,rfl,rfl,rfl,rfl,rfl⟩ bL aAv rfl⟩
 replace h3:¬(k:Int)<(x.r.l.length:Nat):=h3
 obtain rfl:k=x.r.l.length:=by omega
 have hIf':LuG x.f (zE p q b) x.r.l.length rw cl Lw Up F:=by rw[hxr];exact hIf
 have hS':yb (zb Br F x.r.l.length) F x.r.l.length<=4398046511104:=by rw[hxr,<-hY];exact hS
 have hF1:1<=F:=by rw[hF];exact vP h1 m
 have hFF:F<=4398046511104:=by
  rcases cE m with e|e
  ·rw[hF,e];exact hBB
  have a1:F<=yb (zb Br F m) F 1:=Nat.le_add_left _ _
  have a2:yb (zb Br F m) F 1<=Y:=by rw[hY];exact aNs e
  omega
 have hkap:∀l,l<x.c.l.length->x.c.l.getD l 0=(atN (bcL b p.c.l.length) l:Nat)/\atN (bcL b p.c.l.length) l<p.c.l.length/\b.c.l.getD (atN (bcL b p.c.l.length) l) 0=2:=λl hl=>by
  have hl':l<(bcL b p.c.l.length).length:=by rw[<-hI.c];exact hl
  exact⟨by rw[hI.c];exact e2 l hl',e1.lt l hl',e1.mem l hl'⟩
 have hkinj:∀l l',l<x.c.l.length->l'<x.c.l.length->atN (bcL b p.c.l.length) l=atN (bcL b p.c.l.length) l'->l=l':=λl l' hl hl' he=>e1.inj (by rw[<-hI.c];exact hl) (by rw[<-hI.c];exact hl') he
 show Sd _ _ _ _ _ _
 refine rT 10 4 (λj=>((nO Z x.r.l.length).getD j default).C) rfl rfl (λj hj=>aAn j hj) (by rw[oV (P:=λj=>(Z j).C) (e:=3) λ_ _=>rfl]) bL eM bL λA c _ _=>⟨λc hc=>cY (eM c hc),?_⟩
 have hct:=bHd x.f ⟨A,c,nO Z x.r.l.length⟩ (bv:=λk=>rsN q b (atN (brL b p.r.l.length) k) (q.M (atN (brL b p.r.l.length) k)).length) (B:=Br) hIf' hF1 oM rH (λk hk=>⟨by show Cr ((nO Z x.r.l.length).getD k default) _;rw[xD hk];exact hZ k hk,by rw[hBr];exact bSj (b:=b) h (f1.lt k (by rw[<-hI.r];exact hk)) (aI _)⟩) oM hFF hS'
 rw[show fI ⟨A,c,nO Z x.r.l.length⟩=CV.r A x.r.l.length c 3 (λj=>((nO Z x.r.l.length).getD j default).C) from aFj.symm] at hct
 refine aA gT mxd ⟨[],hct,rfl,rfl,rfl,λ⟨W,w⟩ ⟨hSol,hW⟩=>?_⟩
 replace hSol:Sol (zE p q b) x.r.l.length (λk=>rsN q b (atN (brL b p.r.l.length) k) (q.M (atN (brL b p.r.l.length) k)).length) w:=hSol
 replace hW:∀c,c<x.r.l.length->Cr (W c) (w c)/\rb (w c) (yb (zb Br F x.r.l.length) F x.r.l.length):=hW
 rw[hxr,<-hY,<-hxr] at hW
 show Sd _ _ _ _ _ _
 refine cG (λ_=>true) (λg:Nat×(Nat->RatM)=>cCm x p g.1) (λg=>bPh x p b g.2 W) (λ_=>[]) (λg=>g.1<=x.c.l.length/\(∀l,l<g.1->Cr (g.2 (atN (bcL b p.c.l.length) l)) (w l))/\∀j,j<p.c.l.length->(∀l,l<g.1->atN (bcL b p.c.l.length) l≠j)->Cr (g.2 j) (x0N q b j)) (λg=>x.c.l.length-g.1) λhM3=>⟨bH hM3 (chg:=λg:Nat×(Nat->RatM)=>cCm x p g.1) (bls:=λg=>bPh x p b g.2 W) (fls:=λ_=>[]) (0,X) ⟨aC _,λl hl=>absurd hl (aF _),λj hj _=>hX j hj⟩ rfl ⟨rfl,rfl,rfl,rfl,rfl,rfl⟩ trivial ⟨rfl,rfl,rfl,rfl,rfl⟩ bL aWb rfl,λ⟨k,X'⟩ ⟨hk,hb1,hb2⟩=>aA gT mxd ⟨λh6=>aA gT mxd ?_,λh6=>aA gT mxd ?_⟩⟩
 all_goals
  replace hk:k<=x.c.l.length:=hk
  replace hb1:∀l,l<k->Cr (X' (atN (bcL b p.c.l.length) l)) (w l):=hb1
  replace hb2:∀j,j<p.c.l.length->(∀l,l<k->atN (bcL b p.c.l.length) l≠j)->Cr (X' j) (x0N q b j):=hb2
 ·replace h6:(k:Int)<(x.c.l.length:Nat):=h6
  have hkn:k<x.c.l.length:=by omega
  have hkr:k<x.r.l.length:=by omega
  obtain⟨c1,c2,c3⟩:=hkap k hkn
  refine⟨k,⟨rfl,hkn⟩,k,⟨rfl,hkr,fF hkr⟩,_,mE hkr,atN (bcL b p.c.l.length) k,⟨c1,c2,fF c2⟩,_,gZ c2,(k+1:Nat),wi,bH hM3 (chg:=λg:Nat×(Nat->RatM)=>cCm x p g.1) (bls:=λg=>bPh x p b g.2 W) (fls:=λ_=>[]) (k+1,upd X' (atN (bcL b p.c.l.length) k) (W k)) ⟨⟨hkn,λl hl=>?_,λj hj hno=>?_⟩,show x.c.l.length-(k+1)<x.c.l.length-k by omega⟩ rfl ⟨rfl,rfl,rfl,rfl,rfl,rfl⟩ trivial ⟨rfl,rfl,rfl,rfl,rfl⟩ bL aWb rfl⟩
  ·show Cr (upd X' _ _ (atN (bcL b p.c.l.length) l)) (w l)
   by_cases e:l=k
   ·rw[e,bJ];exact(hW k hkr).1
   have hl':l<k+1:=hl
   rw[bD λhe=>e (hkinj l k oM hkn he)];exact hb1 l oM
  show Cr (upd X' _ _ j) _
  rw[bD λhe=>hno k (bF k) he.symm];exact hb2 j hj λl hl=>hno l (eO hl)
 replace h6:¬(k:Int)<(x.c.l.length:Nat):=h6
 obtain rfl:k=x.c.l.length:=by omega
 have hbas:∀j,j<p.c.l.length->b.c.l.getD j 0=2->∃l,l<x.c.l.length/\atN (bcL b p.c.l.length) l=j:=λj hj hs=>by rw[hI.c];exact e1.all j hj hs
 have hx2:∀j,b.c.l.getD j 0=2->x0N q b j=0:=λj hs=>by unfold x0N;rw[hs];rfl
 obtain⟨xs,hxs⟩:∃xs:Nat->Rat,xs=λj=>x0N q b j+spr x.c.l.length (atN (bcL b p.c.l.length)) w j:=⟨_,rfl⟩
 have hxb:∀l,l<x.c.l.length->xs (atN (bcL b p.c.l.length) l)=w l:=λl hl=>by
  rw[hxs]
  show x0N q b _+spr _ _ _ _=_
  rw[hx2 _ (hkap l hl).2.2,aFo hl λl' hl' he=>hkinj l' l hl' hl he,fU]
 have hxn:∀j,b.c.l.getD j 0≠2->xs j=x0N q b j:=λj hs=>by
  rw[hxs]
  show x0N q b _+spr _ _ _ _=_
  rw[aKx λl hl he=>absurd (by rw[<-he];exact(hkap l hl).2.2) hs,bP]
 have hqs:∀j,j<p.c.l.length->lQ ((List.range p.c.l.length).map xs) j=xs j:=λj hj=>by unfold lQ;simp[hj]
 have hcr:∀j,j<p.c.l.length->Cr (X' j) (xs j):=λj hj=>by
  by_cases hs:b.c.l.getD j 0=2
  ·obtain⟨l,hl,rfl⟩:=hbas j hj hs
   rw[hxb l hl];exact hb1 l hl
  rw[hxn j hs];exact hb2 j hj λl hl he=>hs (by rw[<-he];exact(hkap l hl).2.2)
 refine rT 7 3 (λj=>((nO X' p.c.l.length).getD j default).C) rfl rfl (λj hj=>aAn j hj) (by rw[oV (P:=λj=>(X' j).C) (e:=3) λ_ _=>rfl]) bL eM bL λA2 c2 _ _=>⟨(λc hc=>by cases hc),λc hc=>cY (eM c hc),aA gT mxd ⟨(⟨A2,c2,nO X' p.c.l.length⟩,(List.range p.c.l.length).map xs),⟨⟨?_,λj hj=>?_⟩,⟨by simp,λj hj hs=>?_,λi hi hs=>?_,λq hq=>?_⟩⟩,aM aFj rfl trivial⟩⟩
 ·show(nO X' p.c.l.length).length=_
  rw[rH];simp
 ·have hj':j<p.c.l.length:=by simpa using hj
  show Cr ((nO X' p.c.l.length).getD j default) (lQ ((List.range p.c.l.length).map xs) j)
  rw[xD hj',hqs j hj'];exact hcr j hj'
 ·rw[hqs j hj];exact hxn j hs
 ·obtain⟨k,hk,hki⟩:=f1.all i hi hs
  have hk':k<x.r.l.length:=by rw[hI.r];exact hk
  have hv:=(h.v i hi).2
  have s1:=(hSol w).2 (λ_ _=>rfl) k hk'
  have hn:x.r.l.length=(bcL b p.c.l.length).length:=by rw[hxr,<-hI.c,hxc]
  have s2:dtn x.r.l.length (zE p q b k) w=cI (λl=>Vm.get (q.M i) (atN (bcL b p.c.l.length) l:Nat)*w l) x.c.l.length:=by
   unfold dtn
   rw[hxr,<-hxc]
   refine bM λl hl=>?_
   have hl':l<(bcL b p.c.l.length).length:=by rw[<-hI.c];exact hl
   show Vm.get (jI _ _ (q.M (atN (brL b p.r.l.length) k))) _*_=_
   rw[sD (λk l hkl hl=>e1.mono k l hkl hl) (h.v _ (f1.lt k hk)).2.1 hl',show atN (brL b p.r.l.length) k=i from hki]
  rw[s2] at s1
  have s3:dtl (q.M i) (lQ ((List.range p.c.l.length).map xs))=dtl (q.M i) (x0N q b)+cI (λl=>Vm.get (q.M i) (atN (bcL b p.c.l.length) l:Nat)*w l) x.c.l.length:=by
   rw[tE (n:=p.c.l.length) λe he=>⟨(hv.2 e he).1,(hv.2 e he).2.1⟩,tE (n:=p.c.l.length) λe he=>⟨(hv.2 e he).1,(hv.2 e he).2.1⟩]
   unfold dtn
   rw[<-yI (c:=p.c.l.length) (f:=λj=>Vm.get (q.M i) (j:Nat)) λl hl=>(hkap l hl).2.1,<-xJ]
   refine bM λj hj=>?_
   rw[hqs j hj,hxs];grind
  rw[s3,s1]
  show _+(q.b (atN (brL b p.r.l.length) k)-dtl ((q.M (atN (brL b p.r.l.length) k)).take _) _)=_
  rw[cW,show atN (brL b p.r.l.length) k=i from hki];grind
 obtain⟨j,hj,rfl⟩:=cC.1 hq
 have hj':=cM.1 hj
 by_cases hs:b.c.l.getD j 0=2
 ·obtain⟨l,hl,rfl⟩:=hbas j hj' hs
  rw[hxb l hl];exact(hW l oM).2.le oM
 rw[hxn j hs];exact(bIs (b:=b) h hj').le oM
def zT (B F:Nat):Nat->Nat
 |0=>B
 |k+1=>2*zT B F k+2*F+1
theorem aFs {B F k n:Nat} (h:k<=n):zT B F k<=zT B F n:=by
 induction h with
 |refl=>exact aI _
 |step _ ih=>exact aJ ih (by show _<=2*zT B F _+2*F+1;omega)
theorem aWc {l:List En} (ha:Asc l) (t:Nat) (j:Int):Vm.get (l.take t) j=0\/Vm.get (l.take t) j=Vm.get l j:=by
 by_cases h:∃e∈l.take t,e.1=j
 ·refine .inr ?_
  obtain⟨e,he,rfl⟩:=h
  have e1:Vm.get l e.1=Vm.get (l.take t) e.1+Vm.get (l.drop t) e.1:=by rw[<-get_append,dR]
  have ha':Asc (l.take t++l.drop t):=by rw[dR];exact ha
  rw[e1,get_none (a:=l.drop t) λf hf h=>by
   have:e.1<f.1:=(eR.1 ha').2.2 e he f hf
   omega,bP]
 exact .inl (get_none λe he h2=>h ⟨e,he,h2⟩)
theorem aWd {l:List En} {t j0:Nat} (h:t<l.length) (he:(l.getD t default).1=(j0:Nat)) (j:Nat):Vm.get (l.take (t+1)) (j:Nat)=Vm.get (l.take t) (j:Nat)+if j=j0 then (l.getD t default).2 else 0:=by
 rw[aBu h,get_append,uM,he]
 show _+(_+(0:Rat))=_
 rw[bP]
 by_cases e:j=j0
 ·rw[if_pos e,if_pos oM]
 rw[if_neg e,if_neg oM]
section
variable {n F B:Nat} {Lw Up lo us:Nat->List En} {p c y:Nat->Rat} (hP:LuP n Lw Up lo us p) (h1:1<=F)
def aKz (us:Nat->List En) (p c:Nat->Rat) (i t:Nat):Nat->Rat:=λj=>if j=i then fwT us p c i i/p i else fwT us p c i j-Vm.get ((us i).take t) (j:Nat)*(fwT us p c i i/p i)
def aGg (lo:Nat->List En) (n:Nat) (y:Nat->Rat) (k t:Nat):Nat->Rat:=λj=>bkT lo n y k j-Vm.get ((lo (n-1-k)).take t) (j:Nat)*bkT lo n y k (n-1-k)
include h1
theorem aWe {i t j:Nat} (hi:i<n) (hj:j<n) (hp:rb (p i) F) (ha:Asc (us i)) (hb:rbE (us i) F) (h:∀j,j<n->rb (fwT us p c i j) (zT B F i)) (hB:1<=B):rb (aKz us p c i t j) (zT B F (i+1)):=by
 have g1:1<=zT B F i:=aJ hB (aFs (aC i))
 have e1:zT B F (i+1)=2*zT B F i+2*F+1:=rfl
 have hy:=aAt (h i hi) hp g1
 unfold aKz
 by_cases e:j=i
 ·rw[if_pos e];exact hy.le oM
 rw[if_neg e]
 rcases aWc ha t j with h2|h2
 ·rw[h2,dQ,xK];exact(h j hj).le oM
 rw[h2];exact(pV (h j hj) (gY (oU ha hb h1) hy)).le oM
theorem bIt (hp:∀i,i<n->rb (p i) F) (ha:∀i,i<n->Asc (us i)/\rbE (us i) F) (hc:∀j,j<n->rb (c j) B) (hB:1<=B):∀i,i<=n->∀j,j<n->rb (fwT us p c i j) (zT B F i)
 |0,_,j,hj=>hc j hj
 |i+1,hi,j,hj=>by
  have:=aWe h1 (t:=(us i).length) (show i<n by omega) hj (hp i oM) (ha i oM).1 (ha i oM).2 (bIt hp ha hc hB i oM) hB
  unfold aKz at this
  rwa [cW] at this
theorem aWf {k t j:Nat} (hk:k<n) (hj:j<n) (ha:Asc (lo (n-1-k))) (hb:rbE (lo (n-1-k)) F) (h:∀j,j<n->rb (bkT lo n y k j) (zT B F k)):rb (aGg lo n y k t j) (zT B F (k+1)):=by
 have e1:zT B F (k+1)=2*zT B F k+2*F+1:=rfl
 unfold aGg
 rcases aWc ha t j with h2|h2
 ·rw[h2,dQ,xK];exact(h j hj).le oM
 rw[h2];exact(pV (h j hj) (gY (oU ha hb h1) (h (n-1-k) oM))).le oM
theorem bIu (ha:∀i,i<n->Asc (lo i)/\rbE (lo i) F) (hc:∀j,j<n->rb (y j) B):∀k,k<=n->∀j,j<n->rb (bkT lo n y k j) (zT B F k)
 |0,_,j,hj=>hc j hj
 |k+1,hk,j,hj=>by
  have:=aWf h1 (t:=(lo (n-1-k)).length) (show k<n by omega) hj (ha _ oM).1 (ha _ oM).2 (bIu ha hc k oM)
  unfold aGg at this
  rwa [cW] at this
end
theorem aWg (r f s:RatM) {a q b:Rat} (hr:Cr r a) (hra:rb a 4398046511104) (hf:Rq f q 4398046511104) (hs:Rq s b 4398046511104) (hqb:rb (q*b) 4398046511104):Ctr Tryz.prog aJu [] [.a r.C,.a f.C,.a s.C] [] (λg:RatM=>⟨.a g.C,[],Cr g (a-q*b)⟩):=by
 refine aW gT bEd bEe rfl rfl rfl bL aS (aA gT mxd ⟨[],kH s hs,rfl,rfl,rfl,λ_ _=>⟨λh=>aA gT mxd ⟨r,?_,aM rfl rfl trivial⟩,λh=>aA gT mxd ?_⟩⟩)
 ·rw[dH.1 (fS.1 h),cA,xK];exact hr
 exact⟨.seq [(0,false),(1,false),(2,false),(3,false),(4,false),(5,true)],by kernel_rfl,[],xC f s hf hs,rfl,rfl,rfl,λm hm=>⟨[],aJt r m (Cr.rq hr hra) (Cr.rq hm hqb),rfl,rfl,rfl,λg hg=>⟨g,hg,aM rfl rfl trivial⟩⟩⟩
theorem cNg (f:LuM) (Z0:Nat->RatM) {M:Nat->List En} {n F:Nat} {rw cl:Nat->Nat} {Lw Up:Nat->List En} (h:LuG f M n rw cl Lw Up F) (hF:F<=4398046511104) (h1:1<=F) (hn:n<=4096):Ctr Tryz.prog aVn [true] [.a f.C,.c (.s 0 n)] [(62,3,rtC n Z0)] (λ_:Unit=>⟨.c (iC 0),[(62,3,rtC n Z0)],True⟩):=by
 have hR:f.R.l.length=n:=by rw[h.R];simp
 have hw:Ctr Tryz.prog bHc [] [.a f.C,.c (iC (f.R.l.length:Nat))] [] (λ_:Unit=>⟨.c (.v (.bool true)),[],True⟩):=by rw[hR];exact cKr f h hF h1 hn
 refine aW gT bRt bRu rfl rfl rfl bL (aBn eM) (aA gT mxd ?_)
 refine⟨[],hw,rfl,rfl,rfl,λ_ _=>⟨λh2=>?_,λ_=>aA gT mxd ⟨(),trivial,fH rfl rfl bL (aB (bU eM) aY) rfl (aBn eM)⟩⟩⟩
 replace h2:¬(n:Int)=(f.R.l.length:Nat):=h2
 omega
abbrev tB1 (f:LuM) (n:Nat) (Z0 Z:Nat->RatM):BL:=[(62,3,rtC n Z0),(85,0,f.C),(62,3,rtC n Z)]
theorem aCc {f:LuM} {n:Nat} {Z0 Z:Nat->RatM}:scB 3 (tB1 f n Z0 Z):=aB (bU eM) (aB rfl (aB (bU eM) aY))
abbrev tB2 (f:LuM) (n:Nat) (Z0 Z X:Nat->RatM):BL:=[(62,3,rtC n Z0),(85,0,f.C),(62,3,rtC n Z),(62,3,rtC n X)]
theorem aLa {f:LuM} {n:Nat} {Z0 Z X:Nat->RatM}:scB 4 (tB2 f n Z0 Z X):=aB (bU eM) (aB rfl (aB (bU eM) (aB (bU eM) aY)))
theorem cTy {T T' e e':Nat} {l l':List CV} (h:∀c∈l,fK c=true) (h':∀c∈l',fK c=true):ClB [true,true] [(T,e,l),(T',e',l')]:=ClB.cons (λ_=>aV.2 h) (ClB.cons (λ_=>aV.2 h') aS)
abbrev sG0 (n i:Nat):List (Nat×DV):=[(32,.c (iC i)),(31,.c (iC n)),(1,.c (.s 0 n)),(2,.c (.p 1 0)),(7,.c (iC n)),(8,.c (.s 2 n))]
abbrev sG1 (n i:Nat):List (Nat×DV):=[(48,.c (iC i)),(47,.c (iC n)),(2,.c (.p 1 0)),(7,.c (iC n)),(8,.c (.s 2 n))]
abbrev sG2 (n i:Nat) (A:Option Addr) (c m:Nat) (row:Sl EntM) (t:Nat):List (Nat×DV):=(75,.c (iC t))::(73,.c (.r A m c 4 λj=>(row.l.getD (j+1) default).C))::(74,.c (iC m))::(10,.c (iC i))::sG1 n i
abbrev sG3 (n k:Nat):List (Nat×DV):=[(100,.c (iC k)),(99,.c (iC n)),(2,.c (.p 1 0)),(7,.c (iC n)),(8,.c (.s 2 n)),(14,.c (.s 3 n))]
abbrev sG4 (n k i:Nat) (A:Option Addr) (c m:Nat) (row:Sl EntM) (t:Nat):List (Nat×DV):=(119,.c (iC t))::(117,.c (.r A m c 4 λj=>(row.l.getD j default).C))::(118,.c (iC m))::(16,.c (iC i))::sG3 n k
abbrev aSk:FuncId:=132
theorem cCo:Ent Tryz.prog aSk:=aU func132 rfl kR
theorem cCp:Tryz.prog.funcs[aSk]? =some Tryz.f132:=func132
theorem bPi (f:LuM) (Z0:Nat->RatM) {M:Nat->List En} {n F B:Nat} {rw cl:Nat->Nat} {Lw Up:Nat->List En} {bv:Nat->Rat} (h:LuG f M n rw cl Lw Up F) (h1:1<=F) (hn:n<=4096) (hbv:∀k,k<n->Cr (Z0 k) (bv k)/\rb (bv k) B) (h1B:1<=B) (hF:F<=4398046511104) (hB:zT (zT B F n) F n<=4398046511104):
 Ctr Tryz.prog aSk [true,true] [.a f.C,.c (.s 0 n)] [(62,3,rtC n Z0)] (λg:(Nat->RatM)×(Nat->Rat)=>⟨.t [.c (.s 1 n),.c (iC 0)],[(62,3,rtC n Z0),(62,3,rtC n g.1)],TEq (enM M) n bv g.2/\∀r,r<n->Cr (g.1 r) (g.2 r)/\rb (g.2 r) (zT (zT B F n) F n)⟩):=by
 obtain⟨lo,us,p,hP⟩:=h.o.parts
 have hR:f.R.l.length=n:=by rw[h.R];simp
 have hK:f.K.l.length=n:=by rw[h.K];simp
 have hRi:((f.R.l.length:Nat):Int)=(n:Nat):=by rw[hR]
 obtain⟨c,hc⟩:∃c:Nat->Rat,c=λj=>bv (cl j):=⟨_,rfl⟩
 have hpb:∀i,i<n->rb (p i) F:=λi hi=>h.bu i hi ((i:Int),p i) (by rw[(hP.us i hi).1];exact .head _)
 have hua:∀i,i<n->Asc (us i)/\rbE (us i) F:=λi hi=>⟨by
  have:=(h.U.ok i hi).1.1
  rw[(hP.us i hi).1] at this
  exact this.tail,λe he=>h.bu i hi e (by rw[(hP.us i hi).1];exact .tail _ he)⟩
 have hla:∀i,i<n->Asc (lo i)/\rbE (lo i) F:=λi hi=>⟨(hP.lo i hi).2.1,λe he=>h.bl i hi e (by rw[(hP.lo i hi).1];exact dK _ he)⟩
 have hcb:∀j,j<n->rb (c j) B:=λj hj=>by rw[hc];exact(hbv _ (h.o.clt j hj)).2
 have hfr:=bIt (n:=n) (p:=p) (us:=us) (c:=c) h1 hpb hua hcb h1B
 obtain⟨Y,hY⟩:∃Y,Y=zT B F n:=⟨_,rfl⟩
 have hYB:Y<=4398046511104:=aJ (aFs (B:=Y) (F:=F) (aC n)) (by rw[hY];exact hB)
 have h1Y:1<=Y:=by rw[hY];exact aJ h1B (aFs (aC n))
 refine aW gT cCo cCp rfl rfl rfl bL (ClB.cons (λ_=>aV.2 eM) λi T es l hi=>by cases hi) (aA gT mxd ⟨none,[0],cNg f Z0 h hF h1 hn,rfl,rfl,rfl,λ_ _=>⟨λhh=>absurd rfl hh,λ_=>aA gT mxd ⟨n,⟨hRi,hRi,by show 56*n<=_;omega,by simp only[maxLen];omega⟩,?_⟩⟩⟩)
 show Sd _ _ _ _ _ _
 refine gH tSd 2 (rtC n λ_=>default) rfl lK.1 lK.2 ?_
 refine cG (λ_=>true) (λg:Nat×(Nat->RatM)=>sG0 n g.1) (λg=>tB1 f n Z0 g.2) (λ_=>[]) (λg=>g.1<=n/\∀j,j<g.1->Cr (g.2 j) (c j)) (λg=>n-g.1) λhM=>⟨bH hM (chg:=λg:Nat×(Nat->RatM)=>sG0 n g.1) (bls:=λg=>tB1 f n Z0 g.2) (fls:=λ_=>[]) (0,λ_=>default) ⟨aC _,λj hj=>absurd hj (aF _)⟩ rfl ⟨rfl,rfl,rfl⟩ trivial ⟨rfl,hRi,rfl,rfl,hRi,rfl⟩ bL aCc rfl,λ⟨i,Z⟩ ⟨hi,hZ⟩=>aA gT mxd ⟨λh2=>aA gT mxd ?_,λh2=>aA gT mxd ?_⟩⟩
 all_goals
  replace hi:i<=n:=hi
  replace hZ:∀j,j<i->Cr (Z j) (c j):=hZ
 ·replace h2:(i:Int)<(n:Nat):=h2
  have hin:i<n:=by omega
  have hci:=h.o.clt i hin
  have hix:f.K.l.getD i 0=(cl i:Nat):=by rw[h.K];exact yR hin
  refine⟨i,⟨rfl,show i<f.K.l.length by omega⟩,cl i,⟨hix,hci,fF hci⟩,_,mE hci,i,⟨rfl,hin,fF hin⟩,_,gZ hin,(i+1:Nat),wi,bH hM (chg:=λg:Nat×(Nat->RatM)=>sG0 n g.1) (bls:=λg=>tB1 f n Z0 g.2) (fls:=λ_=>[]) (i+1,upd Z i (Z0 (cl i))) ⟨⟨hin,λj hj=>?_⟩,show n-(i+1)<n-i by omega⟩ rfl ⟨rfl,rfl,rfl⟩ trivial ⟨rfl,rfl,rfl,rfl,rfl,rfl⟩ bL aCc rfl⟩
  replace hj:j<i+1:=hj
  show Cr (upd Z i _ j) (c j)
  by_cases e:j=i
  ·subst e;rw[bJ,hc];exact(hbv _ hci).1
  rw[bD e];exact hZ j oM
 replace h2:¬(i:Int)<(n:Nat):=h2
 obtain rfl:n=i:=by omega
 refine aA gT mxd ?_
 show Sd _ _ _ _ _ _
 refine cG (λ_=>true) (λg:Nat×(Nat->RatM)=>sG1 n g.1) (λg=>tB1 f n Z0 g.2) (λ_=>[]) (λg=>g.1<=n/\∀j,j<n->Cr (g.2 j) (fwT us p c g.1 j)) (λg=>n-g.1) λhM=>⟨bH hM (chg:=λg:Nat×(Nat->RatM)=>sG1 n g.1) (bls:=λg=>tB1 f n Z0 g.2) (fls:=λ_=>[]) (0,Z) ⟨aC _,hZ⟩ rfl ⟨rfl,rfl,rfl⟩ trivial ⟨rfl,rfl,rfl,rfl,rfl⟩ bL aCc rfl,λ⟨i,Z⟩ ⟨hi,hZ⟩=>aA gT mxd ⟨λh2=>aA gT mxd ?_,λh2=>aA gT mxd ?_⟩⟩
 all_goals
  replace hi:i<=n:=hi
  replace hZ:∀j,j<n->Cr (Z j) (fwT us p c i j):=hZ
 ·replace h2:(i:Int)<(n:Nat):=h2
  have hin:i<n:=by omega
  have lU:=h.U.ln
  have eU:=h.U.row i hin
  obtain⟨hu,hui,hul⟩:=hP.us i hin
  have hpi:=hP.p i hin
  have ln1:(f.U.d.l.getD i cP).l.length=(us i).length+1:=by rw[eU.ln,hu];simp
  refine⟨i,⟨rfl,show i<f.U.d.l.length by omega⟩,?_⟩
  obtain⟨row,hrow⟩:∃row,row=f.U.d.l.getD i cP:=⟨_,rfl⟩
  have hlen:(f.U.d.l.getD i cP).l.length-1=(us i).length:=by omega
  have hsz:(((f.U.d.l.getD i cP).l.length-1:Nat):Int)=((us i).length:Nat):=by rw[hlen]
  have hsl:CV.r (slA (f.U.d.l.getD i cP).A (f.U.d.l.getD i cP).c 1 4) ((f.U.d.l.getD i cP).l.length-1) ((f.U.d.l.getD i cP).c-1) 4 (λj=>((f.U.d.l.getD i cP).l.getD (j+1) default).C)= .r (slA row.A row.c 1 4) (us i).length (row.c-1) 4 λj=>(row.l.getD (j+1) default).C:=by rw[hlen,hrow]
  rw[<-hrow] at eU
  have hfb:=hfr i oM
  have hzz:zT B F (i+1)<=Y:=by rw[hY];exact aFs hin
  have hz0:zT B F (i+1)=2*zT B F i+2*F+1:=rfl
  have e2:=eU.e 0 (by rw[hu];simp)
  rw[show(Up i).getD 0 default=((i:Int),p i) by rw[hu];rfl] at e2
  have hpr:Rq (row.l.getD 0 default).v (p i) F:=Cr.rq e2.2 (hpb i hin)
  obtain⟨yi,hyi⟩:∃yi,yi=fwT us p c i i/p i:=⟨_,rfl⟩
  have hyb:rb yi (zT B F i+F):=by rw[hyi];exact aAt (hfb i hin) (hpb i hin) (aJ h1B (aFs (aC i)))
  refine⟨.seq ((List.range 16).map λi=>(i,i==15)),by kernel_rfl,i,⟨rfl,hin,fF hin⟩,_,mE hin,0,⟨rfl,show 0<(f.U.d.l.getD i cP).l.length by omega⟩,[],aQx (Z i) ((f.U.d.l.getD i cP).l.getD 0 default).v ((Cr.rq (hZ i hin) (hfb i hin)).le oM) (by rw[<-hrow];exact hpr.le) hpi,rfl,rfl,rfl,λg hg=>?_⟩
  replace hg:Cr g yi:=by rw[hyi];exact hg
  refine⟨i,⟨rfl,hin,fF hin⟩,_,gZ hin,1,⟨rfl,show 1<=(f.U.d.l.getD i cP).l.length by omega⟩,?_⟩
  show Sd _ _ _ _ _ _
  refine cG (λ_=>true) (λg:Nat×(Nat->RatM)=>sG2 n i (slA row.A row.c 1 4) (row.c-1) (us i).length row g.1) (λg=>tB1 f n Z0 g.2) (λ_=>[]) (λg=>g.1<=(us i).length/\∀j,j<n->Cr (g.2 j) (aKz us p c i g.1 j)) (λg=>(us i).length-g.1) λhM2=>⟨bH hM2 (chg:=λg:Nat×(Nat->RatM)=>sG2 n i (slA row.A row.c 1 4) (row.c-1) (us i).length row g.1) (bls:=λg=>tB1 f n Z0 g.2) (fls:=λ_=>[]) (0,upd Z i g) ⟨aC _,λj hj=>?_⟩ rfl ⟨rfl,rfl,rfl⟩ trivial ⟨rfl,hsl,hsz,rfl,rfl,rfl,rfl,rfl,rfl⟩ bL aCc rfl,λ⟨t,Z'⟩ ⟨ht,hZ'⟩=>aA gT mxd ⟨λh3=>aA gT mxd ?_,λh3=>aA gT mxd ?_⟩⟩
  ·show Cr (upd Z i g j) (if j=i then _ else fwT us p c i j-0*_)
   by_cases e:j=i
   ·subst e;rw[bJ,if_pos rfl,<-hyi];exact hg
   rw[bD e,if_neg e,dQ,xK];exact hZ j hj
  all_goals
   replace ht:t<=(us i).length:=ht
   replace hZ':∀j,j<n->Cr (Z' j) (aKz us p c i t j):=hZ'
  ·replace h3:(t:Int)<((us i).length:Nat):=h3
   have htl:t<(us i).length:=by omega
   have e0:=hui _ (fO htl)
   have er:=eU.e (t+1) (by rw[hu];simp;omega)
   rw[show(Up i).getD (t+1) default=(us i).getD t default by rw[hu];rfl] at er
   obtain⟨j0,hj0⟩:∃j0:Nat,((us i).getD t default).1=(j0:Nat):=⟨((us i).getD t default).1.toNat,by omega⟩
   have hij:i<j0:=by omega
   have hjn:j0<n:=by omega
   have hix0:(row.l.getD (t+1) default).ix=(j0:Nat):=er.1.trans hj0
   have hev:rb ((us i).getD t default).2 F:=(hua i hin).2 _ (fO htl)
   have hb0:=aWe (B:=B) (p:=p) (c:=c) (t:=t) h1 hin hjn (hpb i hin) (hua i hin).1 (hua i hin).2 hfb h1B
   have hii:aKz us p c i t i=yi:=by rw[hyi];exact if_pos rfl
   have hzi:=hZ' i hin
   rw[hii] at hzi
   have hk:=aWg (Z' j0) (row.l.getD (t+1) default).v (Z' i) (hZ' j0 hjn) (hb0.le oM) ((Cr.rq er.2 hev).le) ((Cr.rq hzi hyb).le oM) ((gY hev hyb).le oM)
   refine⟨t,⟨rfl,htl⟩,.seq ((List.range 17).map λi=>(i,i==16)),by kernel_rfl,j0,⟨hix0,hjn,fF hjn⟩,_,mE hjn,i,⟨rfl,hin,fF hin⟩,_,mE hin,[],hk,rfl,rfl,rfl,λg hg=>⟨j0,⟨hix0,hjn,fF hjn⟩,_,gZ hjn,(t+1:Nat),wi,bH hM2 (chg:=λg:Nat×(Nat->RatM)=>sG2 n i (slA row.A row.c 1 4) (row.c-1) (us i).length row g.1) (bls:=λg=>tB1 f n Z0 g.2) (fls:=λ_=>[]) (t+1,upd Z' j0 g) ⟨⟨htl,λj hj=>?_⟩,show(us i).length-(t+1)<(us i).length-t by omega⟩ rfl ⟨rfl,rfl,rfl⟩ trivial ⟨rfl,rfl,rfl,rfl,rfl,rfl,rfl,rfl,rfl⟩ bL aCc rfl⟩⟩
   show Cr (upd Z' j0 g j) (if j=i then _ else fwT us p c i j-Vm.get ((us i).take (t+1)) (j:Nat)*_)
   rw[aWd htl hj0]
   by_cases e:j=j0
   ·subst e
    rw[bJ,if_neg oM,if_pos rfl]
    have e3:aKz us p c i t j-((us i).getD t default).2*yi=fwT us p c i j-(Vm.get ((us i).take t) (j:Nat)+((us i).getD t default).2)*(fwT us p c i i/p i):=by
     unfold aKz
     rw[if_neg oM,hyi];grind
    rw[<-e3];exact hg
   rw[bD e,if_neg e,bP];exact hZ' j hj
  replace h3:¬(t:Int)<((us i).length:Nat):=h3
  obtain rfl:t=(us i).length:=by omega
  refine⟨(i+1:Nat),wi,bH hM (chg:=λg:Nat×(Nat->RatM)=>sG1 n g.1) (bls:=λg=>tB1 f n Z0 g.2) (fls:=λ_=>[]) (i+1,Z') ⟨⟨hin,λj hj=>?_⟩,show n-(i+1)<n-i by omega⟩ rfl ⟨rfl,rfl,rfl⟩ trivial ⟨rfl,rfl,rfl,rfl,rfl⟩ bL aCc rfl⟩
  have:=hZ' j hj
  unfold aKz at this
  rwa [cW] at this
 replace h2:¬(i:Int)<(n:Nat):=h2
 obtain rfl:n=i:=by omega
 obtain⟨y,hy⟩:∃y,y=fwT us p c n:=⟨_,rfl⟩
 rw[<-hy] at hZ
 have hyb:∀j,j<n->rb (y j) Y:=by rw[hy,hY];exact hfr n (aI n)
 have hbr:=bIu (n:=n) (lo:=lo) (y:=y) (B:=Y) h1 hla hyb
 refine aA gT mxd ⟨n,⟨rfl,rfl,by show 56*n<=_;omega,by simp only[maxLen];omega⟩,?_⟩
 show Sd _ _ _ _ _ _
 refine gH tSd 3 (rtC n λ_=>default) rfl lK.1 lK.2 ?_
 refine cG (λ_=>true) (λg:Nat×(Nat->RatM)×(Nat->RatM)=>sG3 n g.1) (λg=>tB2 f n Z0 g.2.1 g.2.2) (λ_=>[]) (λg=>g.1<=n/\(∀j,j<n->Cr (g.2.1 j) (bkT lo n y g.1 j))/\∀j,n-g.1<=j->j<n->Cr (g.2.2 (rw j)) (bkT lo n y n j)) (λg=>n-g.1) λhM=>⟨bH hM (chg:=λg:Nat×(Nat->RatM)×(Nat->RatM)=>sG3 n g.1) (bls:=λg=>tB2 f n Z0 g.2.1 g.2.2) (fls:=λ_=>[]) (0,Z,λ_=>default) ⟨aC _,hZ,λj h4 h5=>absurd h4 (by show ¬n-0<=j;omega)⟩ rfl ⟨rfl,rfl,rfl,rfl⟩ trivial ⟨rfl,rfl,rfl,rfl,rfl,rfl⟩ bL aLa rfl,λ⟨k,Z,X⟩ ⟨hk,hZ,hX⟩=>aA gT mxd ⟨λh2=>aA gT mxd ?_,λh2=>aA gT mxd ?_⟩⟩
 all_goals
  replace hk:k<=n:=hk
  replace hZ:∀j,j<n->Cr (Z j) (bkT lo n y k j):=hZ
  replace hX:∀j,n-k<=j->j<n->Cr (X (rw j)) (bkT lo n y n j):=hX
 ·replace h2:(k:Int)<(n:Nat):=h2
  have hkn:k<n:=by omega
  obtain⟨i,hi⟩:∃i,i=n-1-k:=⟨_,rfl⟩
  have hin:i<n:=by omega
  have hri:=h.o.rlt i hin
  have hix:f.R.l.getD i 0=(rw i:Nat):=by rw[h.R];exact yR hin
  have lL:=h.L.ln
  have eL:=h.L.row i hin
  obtain⟨hl,hvl⟩:=hP.lo i hin
  have ln1:(f.L.d.l.getD i cP).l.length=(lo i).length+1:=by rw[eL.ln,hl];simp
  have a1:((n-1:Nat):Int)=IntKind.i64.wrap ((n:Nat)-1):=wi oM
  have a2:(i:Int)=IntKind.i64.wrap (((n-1:Nat):Int)-(k:Nat)):=wi oM
  have hll:=kW hvl
  refine⟨(n-1:Nat),a1,(i:Nat),a2,i,⟨rfl,show i<f.L.d.l.length by omega⟩,((lo i).length:Nat),wi (by show(((lo i).length:Nat):Int)=(((f.L.d.l.getD i cP).l.length:Nat):Int)-1/\_<=(((f.L.d.l.getD i cP).l.length:Nat):Int)-1/\(((f.L.d.l.getD i cP).l.length:Nat):Int)-1<=_;omega),(lo i).length,⟨rfl,show(lo i).length<=(f.L.d.l.getD i cP).l.length by omega⟩,?_⟩
  obtain⟨row,hrow⟩:∃row,row=f.L.d.l.getD i cP:=⟨_,rfl⟩
  rw[<-hrow] at eL ln1
  have hbb:=hbr k oM
  have hzz:zT Y F (k+1)<=4398046511104:=aJ (aFs hkn) (by rw[hY];exact hB)
  have hz0:zT Y F (k+1)=2*zT Y F k+2*F+1:=rfl
  show Sd _ _ _ _ _ _
  refine cG (λ_=>true) (λg:Nat×(Nat->RatM)=>sG4 n k i row.A row.c (lo i).length row g.1) (λg=>tB2 f n Z0 g.2 X) (λ_=>[]) (λg=>g.1<=(lo i).length/\∀j,j<n->Cr (g.2 j) (aGg lo n y k g.1 j)) (λg=>(lo i).length-g.1) λhM2=>⟨bH hM2 (chg:=λg:Nat×(Nat->RatM)=>sG4 n k i row.A row.c (lo i).length row g.1) (bls:=λg=>tB2 f n Z0 g.2 X) (fls:=λ_=>[]) (0,Z) ⟨aC _,λj hj=>?_⟩ rfl ⟨rfl,rfl,rfl,rfl⟩ trivial ?_ bL aLa rfl,λ⟨t,Z'⟩ ⟨ht,hZ'⟩=>aA gT mxd ⟨λh3=>aA gT mxd ?_,λh3=>aA gT mxd ?_⟩⟩
  ·show Cr (Z j) (bkT lo n y k j-0*_)
   rw[dQ,xK];exact hZ j hj
  ·exact⟨rfl,by rw[hrow];rfl,rfl,rfl,rfl,rfl,rfl,rfl,rfl,rfl⟩
  all_goals
   replace ht:t<=(lo i).length:=ht
   replace hZ':∀j,j<n->Cr (Z' j) (aGg lo n y k t j):=hZ'
  ·replace h3:(t:Int)<((lo i).length:Nat):=h3
   have htl:t<(lo i).length:=by omega
   have e0:=hvl.2 _ (fO htl)
   have er:=eL.e t (by rw[hl];simp;omega)
   rw[show(Lw i).getD t default=(lo i).getD t default by rw[hl,aD,bA htl,aD]] at er
   obtain⟨j0,hj0⟩:∃j0:Nat,((lo i).getD t default).1=(j0:Nat):=⟨((lo i).getD t default).1.toNat,by omega⟩
   have hji:j0<i:=by omega
   have hjn:j0<n:=by omega
   have hix0:(row.l.getD t default).ix=(j0:Nat):=er.1.trans hj0
   have hev:rb ((lo i).getD t default).2 F:=(hla i hin).2 _ (fO htl)
   have hb0:=aWf (B:=Y) (lo:=lo) (y:=y) (t:=t) h1 hkn hjn (by rw[<-hi];exact(hla i hin).1) (by rw[<-hi];exact(hla i hin).2) hbb
   have hii:aGg lo n y k t i=bkT lo n y k i:=by
    unfold aGg
    rw[<-hi,get_none (a:=(lo i).take t) λe he h4=>by
     have:=(hvl.2 e (cV he)).2.1
     omega,dQ,xK]
   have hzi:=hZ' i hin
   rw[hii] at hzi
   have hyi:=hbb i hin
   have hk':=aWg (Z' j0) (row.l.getD t default).v (Z' i) (hZ' j0 hjn) (hb0.le oM) ((Cr.rq er.2 hev).le) ((Cr.rq hzi hyi).le oM) ((gY hev hyi).le oM)
   refine⟨t,⟨rfl,htl⟩,.seq ((List.range 17).map λi=>(i,i==16)),by kernel_rfl,j0,⟨hix0,hjn,fF hjn⟩,_,mE hjn,i,⟨rfl,hin,fF hin⟩,_,mE hin,[],hk',rfl,rfl,rfl,λg hg=>⟨j0,⟨hix0,hjn,fF hjn⟩,_,gZ hjn,(t+1:Nat),wi,bH hM2 (chg:=λg:Nat×(Nat->RatM)=>sG4 n k i row.A row.c (lo i).length row g.1) (bls:=λg=>tB2 f n Z0 g.2 X) (fls:=λ_=>[]) (t+1,upd Z' j0 g) ⟨⟨htl,λj hj=>?_⟩,show(lo i).length-(t+1)<(lo i).length-t by omega⟩ rfl ⟨rfl,rfl,rfl,rfl⟩ trivial ⟨rfl,rfl,rfl,rfl,rfl,rfl,rfl,rfl,rfl,rfl⟩ bL aLa rfl⟩⟩
   show Cr (upd Z' j0 g j) (bkT lo n y k j-Vm.get ((lo (n-1-k)).take (t+1)) (j:Nat)*_)
   rw[<-hi,aWd htl hj0]
   by_cases e:j=j0
   ·subst e
    rw[bJ,if_pos rfl]
    have e3:aGg lo n y k t j-((lo i).getD t default).2*bkT lo n y k i=bkT lo n y k j-(Vm.get ((lo i).take t) (j:Nat)+((lo i).getD t default).2)*bkT lo n y k i:=by
     unfold aGg
     rw[<-hi];grind
    rw[<-e3];exact hg
   rw[bD e,if_neg e,bP,hi];exact hZ' j hj
  replace h3:¬(t:Int)<((lo i).length:Nat):=h3
  obtain rfl:t=(lo i).length:=by omega
  have hZ1:∀j,j<n->Cr (Z' j) (bkT lo n y (k+1) j):=λj hj=>by
   have:=hZ' j hj
   unfold aGg at this
   rw[<-hi,cW,hi] at this
   exact this
  have hst:bkT lo n y (k+1) i=bkT lo n y n i:=by
   have:=aSc hP (y:=y) (j:=i) (k:=k+1) hin (d:=n-(k+1)) oM oM
   rw[show k+1+(n-(k+1))=n by omega] at this
   exact this.symm
  refine aA gT mxd ?_
  refine⟨.seq ((List.range 12).map λi=>(i,i==11)),by kernel_rfl,i,⟨rfl,show i<f.R.l.length by omega⟩,i,⟨rfl,hin,fF hin⟩,_,mE hin,rw i,⟨hix,hri,fF hri⟩,_,gZ hri,(k+1:Nat),wi,bH hM (chg:=λg:Nat×(Nat->RatM)×(Nat->RatM)=>sG3 n g.1) (bls:=λg=>tB2 f n Z0 g.2.1 g.2.2) (fls:=λ_=>[]) (k+1,Z',upd X (rw i) (Z' i)) ⟨⟨hkn,hZ1,λj h4 h5=>?_⟩,show n-(k+1)<n-k by omega⟩ rfl ⟨rfl,rfl,rfl,rfl⟩ trivial ⟨rfl,rfl,rfl,rfl,rfl,rfl⟩ bL aLa rfl⟩
  replace h4:n-(k+1)<=j:=h4
  show Cr (upd X (rw i) (Z' i) (rw j)) (bkT lo n y n j)
  by_cases e:j=i
  ·subst e;rw[bJ,<-hst];exact hZ1 j hin
  have e2:rw j≠rw i:=λe2=>e (h.o.rinj j i h5 hin e2)
  rw[bD e2]
  exact hX j oM h5
 replace h2:¬(k:Int)<(n:Nat):=h2
 obtain rfl:n=k:=by omega
 obtain⟨xv,hxv⟩:∃xv:Nat->Rat,∀j,j<n->xv (rw j)=bkT lo n y n j:=aRu h.o.rlt h.o.rinj _
 show Sd _ _ _ _ _ _
 refine aTy tSd 1 3 rfl rfl bL bL rfl ⟨_,swl eM,_,swl eM,_,swl eM,bL,aA gT mxd ⟨(X,xv),⟨h.o.solT hP λi hi=>?_,λr hr=>?_⟩,fH ⟨rfl,rfl⟩ ⟨rfl,rfl⟩ bL (aB (bU eM) (aB (bU eM) aY)) rfl (cTy eM eM)⟩⟩
 ·show xv (rw i)=_
  rw[hxv i hi,hy,hc]
 obtain⟨j,hj,rfl⟩:=oW h.o.rlt h.o.rinj r hr
 show Cr (X (rw j)) (xv (rw j))/\rb (xv (rw j)) _
 rw[hxv j hj]
 exact⟨hX j oM hj,by rw[<-hY];exact hbr _ (aI _) j hj⟩
structure MuR (p:ProgM) (q:PrQ) (b:BasM) (By:Nat) (ps:List Rat):Prop where
 ln:ps.length=p.r.l.length
 y0:∀i,i<p.r.l.length->b.r.l.getD i 0=2->lQ ps i=0
 d:∀j,j<p.c.l.length->b.c.l.getD j 0=2->cI (λi=>lQ ps i*Vm.get (q.M i) (j:Nat)) p.r.l.length=q.k j
 rb:rbL ps By
abbrev bIv (x:CorM) (p:ProgM) (X:Nat->RatM):BL:=[(113,0,x.C),(42,0,p.C),(62,3,rtC p.r.l.length X)]
theorem aWh {x:CorM} {p:ProgM} {X:Nat->RatM}:scB 3 (bIv x p X):=aB rfl (aB rfl (aB (bU eM) aY))
abbrev bIw (x:CorM) (p:ProgM) (X Z:Nat->RatM):BL:=bIv x p X++[(62,3,rtC x.c.l.length Z)]
theorem aWi {x:CorM} {p:ProgM} {X Z:Nat->RatM}:scB 4 (bIw x p X Z):=aB rfl (aB rfl (aB (bU eM) (aB (bU eM) aY)))
abbrev bPj (x:CorM) (p:ProgM) (X Z W:Nat->RatM):BL:=bIw x p X Z++[(62,3,rtC x.c.l.length W)]
theorem aWj {x:CorM} {p:ProgM} {X Z W:Nat->RatM}:scB 5 (bPj x p X Z W):=aB rfl (aB rfl (aB (bU eM) (aB (bU eM) (aB (bU eM) aY))))
abbrev cCq (p:ProgM) (k:Nat):List (Nat×DV):=[(20,.c (iC k)),(19,.c (iC (p.r.l.length:Nat))),(2,.c (.p 0 0)),(3,.c (.p 1 0)),(5,.c (.s 2 p.r.l.length))]
abbrev cCr (x:CorM) (p:ProgM) (k:Nat):List (Nat×DV):=[(35,.c (iC k)),(33,.c (cD x.c)),(34,.c (iC (x.c.l.length:Nat))),(2,.c (.p 0 0)),(3,.c (.p 1 0)),(5,.c (.s 2 p.r.l.length)),(7,.c (.s 3 x.c.l.length))]
abbrev cCs (x:CorM) (p:ProgM) (k:Nat):List (Nat×DV):=[(60,.c (iC k)),(58,.c (cD x.r)),(59,.c (iC (x.r.l.length:Nat))),(5,.c (.s 2 p.r.l.length)),(10,.c (.s 4 x.c.l.length))]
abbrev cCt:FuncId:=72
theorem cTz:Ent Tryz.prog cCt:=aU func72 rfl kR
theorem cUa:Tryz.prog.funcs[cCt]? =some Tryz.f72:=func72
theorem cNh (x:CorM) (p:ProgM) (b:BasM) {q:PrQ} {B:Nat} {rw cl:Nat->Nat} {Lw Up:Nat->List En} (h:PrV p q B) (hc:PrC p q) (hk:∀j,j<p.c.l.length->rb (q.k j) B) (hI:CorI p q b (bd B (brL b p.r.l.length).length) x rw cl Lw Up) (hS:zT (zT B (bd B (brL b p.r.l.length).length) (brL b p.r.l.length).length) (bd B (brL b p.r.l.length).length) (brL b p.r.l.length).length<=4398046511104):Ctr Tryz.prog cCt [] [.a x.C,.a p.C] [] (λg:Sl RatM×List Rat=>⟨.c (fI g.1),[],Rl g.1.l g.2/\MuR p q b (1+zT (zT B (bd B (brL b p.r.l.length).length) (brL b p.r.l.length).length) (bd B (brL b p.r.l.length).length) (brL b p.r.l.length).length) g.2⟩):=by
 obtain⟨m,hm⟩:∃m,m=(brL b p.r.l.length).length:=⟨_,rfl⟩
 obtain⟨F,hF⟩:∃F,F=bd B m:=⟨_,rfl⟩
 obtain⟨Y,hY⟩:∃Y,Y=zT (zT B F m) F m:=⟨_,rfl⟩
 rw[<-hm,<-hF,<-hY] at hS ⊢
 have hIf:=hI.f
 rw[<-hm,<-hF] at hIf
 have hpc:=h.c
 have hpr:=h.r
 have hBB:=h.hB
 have h1:=h.h1
 have hbok:=hI.v.ok
 have hxr:x.r.l.length=m:=by rw[hI.r,hm]
 have hxc:x.c.l.length=m:=by rw[hI.c,hI.v.n,hm]
 obtain⟨e1,e2⟩:=bIp b p.c.l.length
 obtain⟨f1,f2⟩:=bIq b p.r.l.length
 have hml:m<=p.r.l.length:=by rw[hm];exact iD
 have hkap:∀l,l<x.c.l.length->x.c.l.getD l 0=(atN (bcL b p.c.l.length) l:Nat)/\atN (bcL b p.c.l.length) l<p.c.l.length/\b.c.l.getD (atN (bcL b p.c.l.length) l) 0=2:=λl hl=>by
  have hl':l<(bcL b p.c.l.length).length:=by rw[<-hI.c];exact hl
  exact⟨by rw[hI.c];exact e2 l hl',e1.lt l hl',e1.mem l hl'⟩
 have hrho:∀l,l<x.r.l.length->x.r.l.getD l 0=(atN (brL b p.r.l.length) l:Nat)/\atN (brL b p.r.l.length) l<p.r.l.length/\b.r.l.getD (atN (brL b p.r.l.length) l) 0≠2:=λl hl=>by
  have hl':l<(brL b p.r.l.length).length:=by rw[<-hI.r];exact hl
  exact⟨by rw[hI.r];exact f2 l hl',f1.lt l hl',f1.mem l hl'⟩
 have hrinj:∀l l',l<x.r.l.length->l'<x.r.l.length->atN (brL b p.r.l.length) l=atN (brL b p.r.l.length) l'->l=l':=λl l' hl hl' he=>f1.inj (by rw[<-hI.r];exact hl) (by rw[<-hI.r];exact hl') he
 refine aW gT cTz cUa rfl rfl rfl bL aS (aA gT mxd ⟨p.r.l.length,⟨rfl,rfl,by show 56*_<=_;omega,by simp only[maxLen];omega⟩,?_⟩)
 show Sd _ _ _ _ _ _
 refine gH tSd 2 (rtC p.r.l.length λ_=>default) rfl lK.1 lK.2 ?_
 refine cG (λ_=>true) (λg:Nat×(Nat->RatM)=>cCq p g.1) (λg=>bIv x p g.2) (λ_=>[]) (λg=>g.1<=p.r.l.length/\∀j,j<g.1->Cr (g.2 j) 0) (λg=>p.r.l.length-g.1) λhM=>⟨bH hM (chg:=λg:Nat×(Nat->RatM)=>cCq p g.1) (bls:=λg=>bIv x p g.2) (fls:=λ_=>[]) (0,λ_=>default) ⟨aC _,λj hj=>absurd hj (aF _)⟩ rfl ⟨rfl,rfl,rfl⟩ trivial ⟨rfl,rfl,rfl,rfl,rfl⟩ bL aWh rfl,λ⟨k,X⟩ ⟨hk1,hX⟩=>aA gT mxd ⟨λh2=>aA gT mxd ?_,λh2=>aA gT mxd ?_⟩⟩
 all_goals
  replace hk1:k<=p.r.l.length:=hk1
  replace hX:∀j,j<k->Cr (X j) 0:=hX
 ·replace h2:(k:Int)<(p.r.l.length:Nat):=h2
  have hkn:k<p.r.l.length:=by omega
  exact⟨[],yG (z:=0) dC,rfl,rfl,rfl,λg hg=>⟨k,⟨rfl,hkn,fF hkn⟩,_,gZ hkn,(k+1:Nat),wi,bH hM (chg:=λg:Nat×(Nat->RatM)=>cCq p g.1) (bls:=λg=>bIv x p g.2) (fls:=λ_=>[]) (k+1,upd X k g) ⟨⟨hkn,λj hj=>by
   show Cr (upd X k g j) 0
   by_cases e:j=k
   ·rw[e,bJ];exact hg
   rw[bD e];exact hX j (by have:j<k+1:=hj;omega)⟩,show p.r.l.length-(k+1)<p.r.l.length-k by omega⟩ rfl ⟨rfl,rfl,rfl⟩ trivial ⟨rfl,rfl,rfl,rfl,rfl⟩ bL aWh rfl⟩⟩
 replace h2:¬(k:Int)<(p.r.l.length:Nat):=h2
 obtain rfl:k=p.r.l.length:=by omega
 refine aA gT mxd ⟨x.c.l.length,⟨rfl,rfl,by show 56*_<=_;omega,by simp only[maxLen];omega⟩,?_⟩
 show Sd _ _ _ _ _ _
 refine gH tSd 3 (rtC x.c.l.length λ_=>default) rfl lK.1 lK.2 ?_
 refine cG (λ_=>true) (λg:Nat×(Nat->RatM)=>cCr x p g.1) (λg=>bIw x p X g.2) (λ_=>[]) (λg=>g.1<=x.c.l.length/\∀j,j<g.1->Cr (g.2 j) (q.k (atN (bcL b p.c.l.length) j))) (λg=>x.c.l.length-g.1) λhM=>⟨bH hM (chg:=λg:Nat×(Nat->RatM)=>cCr x p g.1) (bls:=λg=>bIw x p X g.2) (fls:=λ_=>[]) (0,λ_=>default) ⟨aC _,λj hj=>absurd hj (aF _)⟩ rfl ⟨rfl,rfl,rfl,rfl⟩ trivial ⟨rfl,rfl,rfl,rfl,rfl,rfl,rfl⟩ bL aWi rfl,λ⟨k,Z⟩ ⟨hk1,hZ⟩=>aA gT mxd ⟨λh3=>aA gT mxd ?_,λh3=>aA gT mxd ?_⟩⟩
 all_goals
  replace hk1:k<=x.c.l.length:=hk1
  replace hZ:∀j,j<k->Cr (Z j) (q.k (atN (bcL b p.c.l.length) j)):=hZ
 ·replace h3:(k:Int)<(x.c.l.length:Nat):=h3
  have hkn:k<x.c.l.length:=by omega
  obtain⟨c1,c2,c3⟩:=hkap k hkn
  refine⟨k,⟨rfl,hkn⟩,atN (bcL b p.c.l.length) k,⟨c1,c2⟩,k,⟨rfl,hkn,fF hkn⟩,_,gZ hkn,(k+1:Nat),wi,bH hM (chg:=λg:Nat×(Nat->RatM)=>cCr x p g.1) (bls:=λg=>bIw x p X g.2) (fls:=λ_=>[]) (k+1,upd Z k (p.c.l.getD (atN (bcL b p.c.l.length) k) default).k) ⟨⟨hkn,λj hj=>?_⟩,show x.c.l.length-(k+1)<x.c.l.length-k by omega⟩ rfl ⟨rfl,rfl,rfl,rfl⟩ trivial ⟨rfl,rfl,rfl,rfl,rfl,rfl,rfl⟩ bL aWi rfl⟩
  show Cr (upd Z k _ j) _
  by_cases e:j=k
  ·rw[e,bJ];exact hc.k _ c2
  rw[bD e];exact hZ j (by have:j<k+1:=hj;omega)
 replace h3:¬(k:Int)<(x.c.l.length:Nat):=h3
 obtain rfl:k=x.c.l.length:=by omega
 have hIf':LuG x.f (zE p q b) x.c.l.length rw cl Lw Up F:=by rw[hxc];exact hIf
 have hS':zT (zT B F x.c.l.length) F x.c.l.length<=4398046511104:=by rw[hxc,<-hY];exact hS
 have hF1:1<=F:=by rw[hF];exact vP h1 m
 have hFF:F<=4398046511104:=by
  rcases cE m with e|e
  ·rw[hF,e];exact hBB
  have a1:F<=zT (zT B F m) F 1:=by show F<=2*_+2*F+1;omega
  have a2:zT (zT B F m) F 1<=Y:=by rw[hY];exact aFs e
  omega
 have hct:=bPi x.f Z (bv:=λk=>q.k (atN (bcL b p.c.l.length) k)) (B:=B) hIf' hF1 oM (λk hk'=>⟨hZ k hk',hk _ (hkap k hk').2.1⟩) h1 hFF hS'
 refine aA gT mxd ⟨none,[3],hct,rfl,rfl,rfl,λ⟨W,w⟩ ⟨hT,hW⟩=>?_⟩
 replace hT:TEq (enM (zE p q b)) x.c.l.length (λk=>q.k (atN (bcL b p.c.l.length) k)) w:=hT
 replace hW:∀r,r<x.c.l.length->Cr (W r) (w r)/\rb (w r) (zT (zT B F x.c.l.length) F x.c.l.length):=hW
 rw[hxc,<-hY,<-hxc] at hW
 show Sd _ _ _ _ _ _
 refine cG (λ_=>true) (λg:Nat×(Nat->RatM)=>cCs x p g.1) (λg=>bPj x p g.2 Z W) (λ_=>[]) (λg=>g.1<=x.r.l.length/\(∀l,l<g.1->Cr (g.2 (atN (brL b p.r.l.length) l)) (w l))/\∀j,j<p.r.l.length->(∀l,l<g.1->atN (brL b p.r.l.length) l≠j)->Cr (g.2 j) 0) (λg=>x.r.l.length-g.1) λhM3=>⟨bH hM3 (chg:=λg:Nat×(Nat->RatM)=>cCs x p g.1) (bls:=λg=>bPj x p g.2 Z W) (fls:=λ_=>[]) (0,X) ⟨aC _,λl hl=>absurd hl (aF _),λj hj _=>hX j hj⟩ rfl ⟨rfl,rfl,rfl,rfl,rfl⟩ trivial ⟨rfl,rfl,rfl,rfl,rfl⟩ bL aWj rfl,λ⟨k,X'⟩ ⟨hk2,hb1,hb2⟩=>aA gT mxd ⟨λh6=>aA gT mxd ?_,λh6=>aA gT mxd ?_⟩⟩
 all_goals
  replace hk2:k<=x.r.l.length:=hk2
  replace hb1:∀l,l<k->Cr (X' (atN (brL b p.r.l.length) l)) (w l):=hb1
  replace hb2:∀j,j<p.r.l.length->(∀l,l<k->atN (brL b p.r.l.length) l≠j)->Cr (X' j) 0:=hb2
 ·replace h6:(k:Int)<(x.r.l.length:Nat):=h6
  have hkn:k<x.r.l.length:=by omega
  have hkc:k<x.c.l.length:=by omega
  obtain⟨c1,c2,c3⟩:=hrho k hkn
  refine⟨k,⟨rfl,hkn⟩,k,⟨rfl,hkc,fF hkc⟩,_,mE hkc,atN (brL b p.r.l.length) k,⟨c1,c2,fF c2⟩,_,gZ c2,(k+1:Nat),wi,bH hM3 (chg:=λg:Nat×(Nat->RatM)=>cCs x p g.1) (bls:=λg=>bPj x p g.2 Z W) (fls:=λ_=>[]) (k+1,upd X' (atN (brL b p.r.l.length) k) (W k)) ⟨⟨hkn,λl hl=>?_,λj hj hno=>?_⟩,show x.r.l.length-(k+1)<x.r.l.length-k by omega⟩ rfl ⟨rfl,rfl,rfl,rfl,rfl⟩ trivial ⟨rfl,rfl,rfl,rfl,rfl⟩ bL aWj rfl⟩
  ·show Cr (upd X' _ _ (atN (brL b p.r.l.length) l)) (w l)
   by_cases e:l=k
   ·rw[e,bJ];exact(hW k hkc).1
   have hl':l<k+1:=hl
   rw[bD λhe=>e (hrinj l k oM hkn he)];exact hb1 l oM
  show Cr (upd X' _ _ j) _
  rw[bD λhe=>hno k (bF k) he.symm];exact hb2 j hj λl hl=>hno l (eO hl)
 replace h6:¬(k:Int)<(x.r.l.length:Nat):=h6
 obtain rfl:k=x.r.l.length:=by omega
 obtain⟨ys,hys⟩:∃ys:Nat->Rat,ys=spr x.r.l.length (atN (brL b p.r.l.length)) w:=⟨_,rfl⟩
 have hyb:∀l,l<x.r.l.length->ys (atN (brL b p.r.l.length) l)=w l:=λl hl=>by
  rw[hys];exact aFo hl λl' hl' he=>hrinj l' l hl' hl he
 have hyn:∀i,b.r.l.getD i 0=2->ys i=0:=λi hs=>by
  rw[hys];exact aKx λl hl he=>absurd hs (by rw[<-he];exact(hrho l hl).2.2)
 have hqs:∀j,j<p.r.l.length->lQ ((List.range p.r.l.length).map ys) j=ys j:=λj hj=>by unfold lQ;simp[hj]
 have hex:∀i,i<p.r.l.length->b.r.l.getD i 0≠2->∃l,l<x.r.l.length/\atN (brL b p.r.l.length) l=i:=λi hi hs=>by rw[hI.r];exact f1.all i hi hs
 have hcr:∀j,j<p.r.l.length->Cr (X' j) (ys j):=λj hj=>by
  by_cases hs:b.r.l.getD j 0=2
  ·rw[hyn j hs];exact hb2 j hj λl hl he=>(hrho l hl).2.2 (by rw[he];exact hs)
  obtain⟨l,hl,rfl⟩:=hex j hj hs
  rw[hyb l hl];exact hb1 l hl
 refine rT 5 2 (λj=>((nO X' p.r.l.length).getD j default).C) rfl rfl (λj hj=>aAn j hj) (by rw[oV (P:=λj=>(X' j).C) (e:=3) λ_ _=>rfl]) bL eM bL λA2 c2 _ _=>⟨(λc hc=>cY (eM c hc)),(λc hc=>cY (eM c hc)),aA gT mxd ⟨(⟨A2,c2,nO X' p.r.l.length⟩,(List.range p.r.l.length).map ys),⟨⟨?_,λj hj=>?_⟩,⟨by simp,λi hi hs=>?_,λj hj hs=>?_,λq hq=>?_⟩⟩,aM aFj rfl trivial⟩⟩
 ·show(nO X' p.r.l.length).length=_
  rw[rH];simp
 ·have hj':j<p.r.l.length:=by simpa using hj
  show Cr ((nO X' p.r.l.length).getD j default) (lQ ((List.range p.r.l.length).map ys) j)
  rw[xD hj',hqs j hj'];exact hcr j hj'
 ·rw[hqs i hi];exact hyn i hs
 ·obtain⟨l,hl,hlj⟩:=e1.all j hj hs
  have hl':l<x.c.l.length:=by rw[hI.c];exact hl
  have s1:=hT l hl'
  have s2:cI (λr=>w r*enM (zE p q b) r l) x.c.l.length=cI (λr=>Vm.get (q.M (atN (brL b p.r.l.length) r)) (j:Nat)*w r) x.r.l.length:=by
   rw[hxr,<-hxc]
   refine bM λr hr=>?_
   have hr':r<(brL b p.r.l.length).length:=by rw[<-hI.r];omega
   show w r*Vm.get (jI _ _ (q.M (atN (brL b p.r.l.length) r))) _=_
   rw[sD (λk l hkl hl=>e1.mono k l hkl hl) (h.v _ (f1.lt r hr')).2.1 hl,show atN (bcL b p.c.l.length) l=j from hlj];grind
  rw[s2,<-yI (c:=p.r.l.length) (f:=λi=>Vm.get (q.M i) (j:Nat)) λl hl=>(hrho l hl).2.1,<-hys] at s1
  replace s1:=s1.trans (show q.k (atN (bcL b p.c.l.length) l)=q.k j by rw[show atN (bcL b p.c.l.length) l=j from hlj])
  rw[<-s1]
  refine bM λi hi=>?_
  show lQ ((List.range p.r.l.length).map ys) i*_=_
  rw[hqs i hi];grind
 obtain⟨i,hi,rfl⟩:=cC.1 hq
 have hi':=cM.1 hi
 by_cases hs:b.r.l.getD i 0=2
 ·rw[hyn i hs];exact aAl oM
 obtain⟨l,hl,rfl⟩:=hex i hi' hs
 rw[hyb l hl];exact(hW l oM).2.le oM
structure PrG (p:ProgM) (q:PrQ) (B:Nat):Prop where
 v:PrV p q B
 c:PrC p q
 k:∀j,j<p.c.l.length->rb (q.k j) B
 rl:p.r.l.length<=12
 cl:p.c.l.length<=100
 bB:B<=1000
 f:bd B (p.r.l.length-1)<=4398046511104
 s:∀m,m<=p.c.l.length->yb (zb (2+B+p.c.l.length*(B+B+1)) (bd B m) m) (bd B m) m<=1000000000
 t:∀m,m<=p.c.l.length->zT (zT B (bd B m) m) (bd B m) m<=1000000000
theorem BVal.m {p:ProgM} {q:PrQ} {b:BasM} (h:BVal p q b):(brL b p.r.l.length).length<=p.c.l.length:=by rw[<-h.n];exact iD
abbrev PtL (p:ProgM) (q:PrQ) (b:BasM) (x:Sl RatM) (qs:List Rat):Prop:=Rl x.l qs/\PtR p q b 1000001000 qs
abbrev MuL (p:ProgM) (q:PrQ) (b:BasM) (y:Sl RatM) (ps:List Rat):Prop:=Rl y.l ps/\MuR p q b 1000001000 ps
abbrev bPk:FuncId:=23
theorem cUb:Ent Tryz.prog bPk:=aU func23 rfl kR
theorem cUc:Tryz.prog.funcs[bPk]? =some Tryz.f23:=func23
theorem aWk (p:ProgM) (b:BasM) {q:PrQ} {B:Nat} (h:PrG p q B) (hb:BVal p q b):Ctr Tryz.prog bPk [] [.a p.C,.a b.C] [] (λg:Sl RatM×List Rat=>⟨.t [.c (fI g.1),.c (iC 0)],[],PtL p q b g.1 g.2⟩):=by
 refine aW gT cUb cUc rfl rfl rfl bL aS (aA gT mxd ⟨[],bSi p b h.v h.rl h.f,rfl,rfl,rfl,λg hg=>?_⟩)
 cases g with
 |none=>exact absurd hb hg
 |some g=>
  obtain⟨x,rw',cl,Lw,Up⟩:=g
  have hs:=h.s _ hb.m
  have hB:=h.bB
  exact⟨λhh=>absurd rfl hh,λ_=>aA gT mxd ⟨[],cNf x p b h.v h.c hg oM,rfl,rfl,rfl,λg hg=>⟨g,⟨hg.1,hg.2.ln,hg.2.x0,hg.2.ti,λr hr=>(hg.2.rb r hr).le oM⟩,aM ⟨rfl,rfl⟩ rfl trivial⟩⟩⟩
abbrev cCu:FuncId:=24
theorem cUd:Ent Tryz.prog cCu:=aU func24 rfl kR
theorem cUe:Tryz.prog.funcs[cCu]? =some Tryz.f24:=func24
theorem cNi (p:ProgM) (b:BasM) {q:PrQ} {B:Nat} (h:PrG p q B) (hb:BVal p q b):Ctr Tryz.prog cCu [] [.a p.C,.a b.C] [] (λg:Sl RatM×List Rat=>⟨.t [.c (fI g.1),.c (iC 0)],[],MuL p q b g.1 g.2⟩):=by
 refine aW gT cUd cUe rfl rfl rfl bL aS (aA gT mxd ⟨[],bSi p b h.v h.rl h.f,rfl,rfl,rfl,λg hg=>?_⟩)
 cases g with
 |none=>exact absurd hb hg
 |some g=>
  obtain⟨x,rw',cl,Lw,Up⟩:=g
  have hs:=h.t _ hb.m
  exact⟨λhh=>absurd rfl hh,λ_=>aA gT mxd ⟨[],cNh x p b h.v h.c h.k hg oM,rfl,rfl,rfl,λg hg=>⟨g,⟨hg.1,hg.2.ln,hg.2.y0,hg.2.d,λr hr=>(hg.2.rb r hr).le oM⟩,aM ⟨rfl,rfl⟩ rfl trivial⟩⟩⟩
theorem PrG.px {p:ProgM} {q:PrQ} {B:Nat} (h:PrG p q B) {b:BasM} {x:Sl RatM} {qs:List Rat} (hx:PtL p q b x qs):PrX p q x qs B 1000001000:=⟨h.v,hx.1,hx.2.ln,hx.2.rb,by
 have h1:=h.cl
 have h2:=h.bB
 have h3:(p.c.l.length+1)*(B+1000001000+1)<=101*(B+1000001000+1):=aZ _ oM
 omega⟩
theorem PrG.py {p:ProgM} {q:PrQ} {B:Nat} (h:PrG p q B) {b:BasM} {y:Sl RatM} {ps:List Rat} (hy:MuL p q b y ps):PrY p q y ps B 1000001000:=⟨h.v,hy.1,hy.2.ln,hy.2.rb,by decide⟩
theorem PrG.pz {p:ProgM} {q:PrQ} {B:Nat} (h:PrG p q B) {b:BasM} {y:Sl RatM} {ps:List Rat} (hy:MuL p q b y ps):PrZ p q y ps B 1000001000:=⟨h.py hy,h.k,by
 have h1:=h.rl
 have h2:=h.bB
 have h3:(p.r.l.length+1)*(1000001000+B+1)<=13*(1000001000+B+1):=aZ _ oM
 omega⟩
abbrev bPl:FuncId:=38
theorem cUf:Ent Tryz.prog bPl:=aU func38 rfl kR
theorem cUg:Tryz.prog.funcs[bPl]? =some Tryz.f38:=func38
theorem cNj (p:ProgM) (b:BasM) {q:PrQ} {B:Nat} (h:PrG p q B) (hb:BVal p q b):Ctr Tryz.prog bPl [] [.a p.C,.a b.C] [] (λg:Sl RatM×List Rat=>⟨pC (Fsb p q g.2),[],PtL p q b g.1 g.2⟩):=by
 refine aW gT cUf cUg rfl rfl rfl bL aS (aA gT mxd ⟨[],aWk p b h hb,rfl,rfl,rfl,λg hg=>?_⟩)
 exact⟨λ_=>⟨[],cLs p g.1 (h.px hg),rfl,rfl,rfl,λ_ _=>⟨g,hg,aM lF rfl trivial⟩⟩,λhh=>absurd rfl hh⟩
def Dbr (s:Int) (d:Rat):Prop:=(sgn d.num<0/\s≠1)\/(0<sgn d.num/\s≠0)
def DuR (p:ProgM) (q:PrQ) (b:BasM) (ps:List Rat) (n:Nat):Prop:=∀j,j<n->¬(b.c.l.getD j 0=2\/Fxd (p.c.l.getD j default) (q.l j) (q.u j))->¬Dbr (b.c.l.getD j 0) (tU q ps p.r.l.length j)
abbrev duB (p:ProgM) (b:BasM):BL:=[(42,0,p.C),(45,0,b.C)]
theorem aLb {p:ProgM} {b:BasM}:scB 2 (duB p b):=aB rfl (aB rfl aY)
abbrev duG (p:ProgM) (d:Sl RatM) (k:Nat):List (Nat×DV):=[(35,.c (iC k)),(33,.c (rZ p.c)),(34,.c (iC (p.c.l.length:Nat))),(2,.c (.p 0 0)),(3,.c (.p 1 0)),(7,.c (fI d))]
abbrev bPm:FuncId:=39
theorem cUh:Ent Tryz.prog bPm:=aU func39 rfl kR
theorem cUi:Tryz.prog.funcs[bPm]? =some Tryz.f39:=func39
theorem cNk (p:ProgM) (b:BasM) {q:PrQ} {B:Nat} (h:PrG p q B) (hb:BVal p q b):Ctr Tryz.prog bPm [] [.a p.C,.a b.C] [] (λg:Sl RatM×List Rat=>⟨pC (Sgd p g.2/\DuR p q b g.2 p.c.l.length),[],MuL p q b g.1 g.2⟩):=by
 have hpc:=h.v.c
 have hBB:=h.v.hB
 refine aW gT cUh cUi rfl rfl rfl bL aS (aA gT mxd ⟨[],cNi p b h hb,rfl,rfl,rfl,λg hg=>?_⟩)
 refine⟨λhh=>absurd rfl hh,λ_=>⟨[],cLt p g.1 (h.py hg),rfl,rfl,rfl,λ_ _=>⟨λh2=>aA gT mxd ?_,λh2=>aA gT mxd ⟨[],cLu p g.1 (h.pz hg),rfl,rfl,rfl,λd ⟨hd1,hd2⟩=>?_⟩⟩⟩⟩
 ·replace h2:¬Sgd p g.2:=h2
  exact⟨g,hg,aM (ff λhh=>h2 hh.1) rfl trivial⟩
 replace h2:Sgd p g.2:=eE.1 h2
 replace hd1:d.l.length=p.c.l.length:=hd1
 replace hd2:∀j,j<p.c.l.length->Cr (d.l.getD j default) (tU q g.2 p.r.l.length j):=hd2
 have hbc:=hb.ok.c
 show Sd _ _ _ _ _ _
 refine cG (λ_=>true) (λk:Nat=>duG p d k) (λ_=>duB p b) (λ_=>[]) (λk=>k<=p.c.l.length/\DuR p q b g.2 k) (λk=>p.c.l.length-k) λhM=>⟨bH hM (chg:=λk:Nat=>duG p d k) (bls:=λ_=>duB p b) (fls:=λ_=>[]) 0 ⟨aC _,λj hj=>absurd hj (aF _)⟩ rfl ⟨rfl,rfl⟩ trivial ⟨rfl,rfl,rfl,rfl,rfl,rfl⟩ bL aLb rfl,λk ⟨hk,hD⟩=>aA gT mxd ⟨λh3=>aA gT mxd ?_,λh3=>aA gT mxd ?_⟩⟩
 ·replace h3:(k:Int)<(p.c.l.length:Nat):=h3
  have hkn:k<p.c.l.length:=by omega
  have hcol:=h.v.rd.c k hkn
  have nxt:(¬(b.c.l.getD k 0=2\/Fxd (p.c.l.getD k default) (q.l k) (q.u k))->¬Dbr (b.c.l.getD k 0) (tU q g.2 p.r.l.length k))->DuR p q b g.2 (k+1):=λhh j hj=>by
   rcases cN (cX hj) with e|e
   ·exact hD j e
   subst e;exact hh
  have go:DuR p q b g.2 (k+1)->True:=λ_=>trivial
  have hz:=(h.pz hg).rd hkn p.r.l.length (aI _)
  have hzb:=(h.pz hg).b
  have hzq:Rq (d.l.getD k default) (tU q g.2 p.r.l.length k) 4398046511104:=Cr.rq (hd2 k hkn) (hz.le (by rw[dU] at hzb;omega))
  refine⟨k,⟨rfl,hkn⟩,k,⟨rfl,by omega⟩,⟨λhq=>?_,λhq=>⟨[],cLh (p.c.l.getD k default) hcol hBB,rfl,rfl,rfl,λ_ _=>⟨λh4=>aA gT mxd ?_,λh4=>aA gT mxd ⟨k,⟨rfl,by omega⟩,[],kH (d.l.getD k default) hzq,rfl,rfl,rfl,λ_ _=>?_⟩⟩⟩⟩⟩
  ·refine⟨(k+1:Nat),wi,bH hM (chg:=λk:Nat=>duG p d k) (bls:=λ_=>duB p b) (fls:=λ_=>[]) (k+1) ⟨⟨hkn,?_⟩,show p.c.l.length-(k+1)<p.c.l.length-k by omega⟩ rfl ⟨rfl,rfl⟩ trivial ⟨rfl,rfl,rfl,rfl,rfl,rfl⟩ bL aLb rfl⟩
   exact nxt λhh=>absurd (.inl hq) hh
  ·refine⟨(k+1:Nat),wi,bH hM (chg:=λk:Nat=>duG p d k) (bls:=λ_=>duB p b) (fls:=λ_=>[]) (k+1) ⟨⟨hkn,?_⟩,show p.c.l.length-(k+1)<p.c.l.length-k by omega⟩ rfl ⟨rfl,rfl⟩ trivial ⟨rfl,rfl,rfl,rfl,rfl,rfl⟩ bL aLb rfl⟩
   exact nxt λhh=>absurd (.inr h4) hh
  refine⟨k,λ_=>⟨rfl,by omega⟩,k,λ_=>⟨rfl,by omega⟩,⟨λh5=>aA gT mxd ?_,λh5=>aA gT mxd ?_⟩⟩
  ·replace h5:Dbr (b.c.l.getD k 0) (tU q g.2 p.r.l.length k):=h5
   exact⟨g,hg,aM (ff λhh=>hh.2 k hkn (λh6=>h6.elim hq h4) h5) rfl trivial⟩
  replace h5:¬Dbr (b.c.l.getD k 0) (tU q g.2 p.r.l.length k):=h5
  refine⟨(k+1:Nat),wi,bH hM (chg:=λk:Nat=>duG p d k) (bls:=λ_=>duB p b) (fls:=λ_=>[]) (k+1) ⟨⟨hkn,?_⟩,show p.c.l.length-(k+1)<p.c.l.length-k by omega⟩ rfl ⟨rfl,rfl⟩ trivial ⟨rfl,rfl,rfl,rfl,rfl,rfl⟩ bL aLb rfl⟩
  exact nxt λ_=>h5
 replace h3:¬(k:Int)<(p.c.l.length:Nat):=h3
 obtain rfl:k=p.c.l.length:=by omega
 exact aA gT mxd ⟨g,hg,aM (tt ⟨h2,hD⟩) rfl trivial⟩
theorem _root_.Go.Vy.CtrF.cl2 {P:Program} {q:FuncId} {cl cl':List Bool} {al:List DV} {bl:BL} {fl:List Fam} {σ:Type} {R:σ->OutF} (h:CtrF P q cl al bl fl R) (hb:ClB cl' bl) (hc:∀g,(R g).C->ClB cl' (R g).bl):CtrF P q cl' al bl fl R:=⟨h.ent,hb,λρ w vals hv hD hF=>(h.run ρ w vals hv hD hF).mono λe w' ⟨v,he,g,ρ',c1,c2,c3,_,c5⟩=>⟨v,he,g,ρ',c1,c2,c3,hc g c1,c5⟩⟩
theorem aFt {P:Nat->Prop}:∀n,(gF P n).length+(gF (λi=>¬P i) n).length=n
 |0=>rfl
 |n+1=>by
  have ih:=aFt (P:=P) n
  by_cases h:P n
  ·rw[jP h,mF (P:=λi=>¬P i) (λhh=>hh h),aE];show _+1+_=_;omega
  rw[mF h,jP (P:=λi=>¬P i) h,aE];show _+(_+1)=_;omega
noncomputable def lfO (st:Sl Int) (n:Nat):List Int:=gF (qJ st) n++gF (λi=>¬qJ st i) n
theorem vT {st:Sl Int} {n:Nat}:(lfO st n).length=n:=by unfold lfO;rw[aE];exact aFt n
theorem aWl {n j:Nat} {P:Nat->CV} (hj:j<n):((dI n P).drop (j*1)).take 1=[P j]:=by
 have h1:=eB (P:=P) hj
 rw[bI] at h1
 rw[bI,dX (by rw[dB];exact hj)]
 rw[aG (by rw[dB];exact hj)] at h1
 injection h1 with h1
 rw[h1];rfl
theorem bIx {L:List Int} {n:Nat} (h:L.length=n):L.map iC=dI n λk=>iC (L.getD k 0):=by
 unfold dI
 refine iN (by simp[h]) λi h1 h2=>?_
 have hi:i<L.length:=by simpa using h1
 simp[hi]
def rvI (O:List Int) (n i k:Nat):Int:=O.getD (if k<i\/n<=k+i then n-1-k else k) 0
theorem bPn {O:List Int} {n i k:Nat} (hn:O.length=n) (hi:n<=2*i+1) (hk:k<n):rvI O n i k=O.reverse.getD k 0:=by
 unfold rvI
 have e:(if k<i\/n<=k+i then n-1-k else k)=n-1-k:=by
  split
  ·rfl
  omega
 rw[e,aD,aD,List.getElem?_reverse oM,hn]
abbrev lfB (st:Sl Int) (n:Nat) (O:List Int) (i:Nat):BL:=[(38,0,[cD st]),(101,0,[.f aHg [] [(0,0)]]),(3,1,dI n λk=>iC (rvI O n i k))]
theorem bIy {st:Sl Int} {n:Nat} {O:List Int} {i:Nat}:scB 3 (lfB st n O i):=aB rfl (aB rfl (aB (bU (aX λ_ _=>rfl)) aY))
abbrev lfG (n i:Nat):List (Nat×DV):=[(7,.c (iC i)),(8,.c (iC ((n:Int)-1-(i:Nat)))),(6,.c (.s 2 n))]
abbrev cCv:FuncId:=61
theorem cUj:Ent Tryz.prog cCv:=aU func61 rfl kR
theorem cUk:Tryz.prog.funcs[cCv]? =some Tryz.f61:=func61
open Classical in
theorem bPo (st:Sl Int) (n:Nat) (hn:n<=4096):Ctr Tryz.prog cCv [] [.c (cD st),.c (iC n)] [] (λg:Sl Int=>⟨.c (cD g),[],g.l=(lfO st n).reverse⟩):=by
 have n1:Ctr Tryz.prog aOb [true,true] [.c (iC n),.c (.f aHg [] [(0,0)])] [(38,0,[cD st])] (λ_:Unit=>⟨.c (.s 1 (fR (qJ st) n).length),[(38,0,[cD st]),(3,1,(fR (qJ st) n).map iC)],True⟩):=(bSb (.i st) aHg n (qJ st) hn λi _=>bId st i).cl2 (ClB.cons (λ_=>rfl) λi T es l hi=>by cases hi) λ_ _=>ClB.cons (λ_=>rfl) (eW (aV.2 (bK _)))
 have n2:Ctr Tryz.prog aOb [false,true,true] [.c (iC n),.c (.f aOd [] [(0,0)])] (KpS.t st).B (λ_:Unit=>⟨.c (.s 2 (fR (λi=>¬qJ st i) n).length),(KpS.t st).B++[(3,1,(fR (λi=>¬qJ st i) n).map iC)],True⟩):=(bSb (.t st) aOd n (λi=>¬qJ st i) hn λi _=>cBr st i).cl2 (ClB.cons (λh=>by cases h) (ClB.cons (λ_=>rfl) λi T es l hi=>by cases hi)) λ_ _=>ClB.cons (λh=>by cases h) (ClB.cons (λ_=>rfl) (eW (aV.2 (bK _))))
 have l1:(fR (qJ st) n).length<=n:=sA n
 have l2:(fR (λi=>¬qJ st i) n).length<=n:=sA n
 refine aW gT cUj cUk rfl rfl rfl bL aS (aA gT mxd ⟨[0],n1,rfl,rfl,rfl,λ_ _=>⟨[1,0],n2,rfl,rfl,rfl,λ_ _=>?_⟩⟩)
 have hO:(fR (qJ st) n).map iC++(fR (λi=>¬qJ st i) n).map iC=dI n λk=>iC (rvI (lfO st n) n 0 k):=by
  rw[<-bG,tG,tG]
  exact(bIx vT).trans (gA λk hk=>by unfold rvI;rw[if_neg oM])
 have hlen:(fR (qJ st) n).length+(fR (λi=>¬qJ st i) n).length=n:=by rw[tG,tG];exact aFt n
 refine⟨⟨by rw[aN,bI],by rw[aN,bI],by simp only[maxLen];omega,by show(_+_)*8<=_;omega,λc hc=>(aQ.1 hc).elim (λh=>cY (bK _ c h)) λh=>cY (bK _ c h)⟩,(λc hc=>cY (bK _ c hc)),(n:Int)-1,wi (h:=⟨by show(n:Int)-1=(((fR (qJ st) n).length+(fR (λi=>¬qJ st i) n).length:Nat):Int)-1;rw[hlen],by show _<=(((fR (qJ st) n).length+(fR (λi=>¬qJ st i) n).length:Nat):Int)-1;omega,by show(((fR (qJ st) n).length+(fR (λi=>¬qJ st i) n).length:Nat):Int)-1<=_;omega⟩),?_⟩
 show Sd _ _ _ _ _ _
 refine cG (λ_=>true) (λi:Nat=>lfG n i) (λi=>lfB st n (lfO st n) i) (λ_=>[]) (λi=>i<=n) (λi=>n-i) λhM=>⟨bH hM (chg:=λi:Nat=>lfG n i) (bls:=λi=>lfB st n (lfO st n) i) (fls:=λ_=>[]) 0 (aC _) rfl ⟨rfl,rfl,congrArg (λl=>((3,1,l):TypeId×Nat×List CV)) hO⟩ trivial ⟨rfl,?_,hlen⟩ bL bIy rfl,λi hi=>aA gT mxd ⟨λh2=>aA gT mxd ?_,λh2=>aA gT mxd ?_⟩⟩
 ·show(n:Int)-1=(n:Int)-1-((0:Nat):Int);omega
 ·replace h2:(i:Int)<(n:Int)-1-(i:Nat):=h2
  have hin:i<n:=by omega
  obtain⟨j,hj⟩:∃j,j=n-1-i:=⟨_,rfl⟩
  have hjn:j<n:=by omega
  have hji:((n:Int)-1-(i:Nat))=(j:Nat):=by omega
  refine⟨.seq [(0,false),(1,false),(2,false),(3,false),(4,false),(5,false),(6,false),(7,false),(8,false),(9,false),(10,false),(11,false),(12,false),(13,true),(14,false),(15,true)],by kernel_rfl,j,⟨hji,hjn,cQ hjn⟩,_,eB hjn,i,⟨rfl,hin,cQ hin⟩,_,eB hin,i,⟨rfl,hin,cQ hin⟩,_,gU (Q:=λk=>if k=i then iC (rvI (lfO st n) n i j) else iC (rvI (lfO st n) n i k)) hin (λk _=>rfl),j,⟨hji,hjn,cQ hjn⟩,_,gU (Q:=λk=>iC (rvI (lfO st n) n (i+1) k)) hjn (λk hk=>?_),(i+1:Nat),wi,(n:Int)-1-((i+1:Nat):Int),wi (h:=⟨by show(n:Int)-1-((i+1:Nat):Int)=(n:Int)-1-(i:Nat)-1;omega,by show _<=(n:Int)-1-(i:Nat)-1;omega,by show(n:Int)-1-(i:Nat)-1<=_;omega⟩),bH hM (chg:=λi:Nat=>lfG n i) (bls:=λi=>lfB st n (lfO st n) i) (fls:=λ_=>[]) (i+1) ⟨hin,show n-(i+1)<n-i by omega⟩ rfl ⟨rfl,rfl,rfl⟩ trivial ⟨rfl,rfl,rfl⟩ bL bIy rfl⟩
  unfold rvI
  by_cases e1:k=j
  ·rw[if_pos e1,if_neg oM,if_pos oM]
   exact congrArg (λz=>iC ((lfO st n).getD z 0)) oM
  rw[if_neg e1]
  by_cases e2:k=i
  ·rw[if_pos e2,if_neg oM,if_pos oM]
   exact congrArg (λz=>iC ((lfO st n).getD z 0)) oM
  rw[if_neg e2]
  exact congrArg (λz=>iC ((lfO st n).getD z 0)) (by
   by_cases e3:k<i\/n<=k+i
   ·rw[if_pos e3,if_pos oM]
   rw[if_neg e3,if_neg oM])
 replace h2:¬(i:Int)<(n:Int)-1-(i:Nat):=h2
 show Sd _ _ _ _ _ _
 refine rT 6 2 (λj=>[iC ((lfO st n).reverse.getD j 0)]) rfl rfl (λj hj=>?_) (by rw[dB,bI]) bL (aX λ_ _=>rfl) bL λA c _ _=>aA gT mxd ⟨⟨A,c,(lfO st n).reverse⟩,rfl,aM ?_ rfl trivial⟩
 ·rw[aWl hj,bPn vT oM hj]
 show CV.r A n c 1 _=CV.r A ((lfO st n).reverse).length c 1 _
 rw[rC,vT]
theorem oD {P Q:Nat->Prop}:∀n,(∀i,i<n->(P i↔Q i))->gF P n=gF Q n
 |0,_=>rfl
 |n+1,h=>by
  have ih:=oD n λi hi=>h i (eO hi)
  by_cases hp:P n
  ·rw[jP hp,jP ((h n (bF n)).1 hp),ih]
  rw[mF hp,mF (λhq=>hp ((h n (bF n)).2 hq)),ih]
theorem Dep.cg {Q Q':Nat->Nat->Rat} {r c j:Nat} (h:∀i k,i<r->k<c->Q i k=Q' i k):Dep Q r c j->Dep Q' r c j:=λ⟨x,h1,h2,h3⟩=>⟨x,h1,h2,λi hi=>by rw[<-h3 i hi];exact bM λk hk=>by rw[h i k hi hk]⟩
theorem aLc {Q Q':Nat->Nat->Rat} {r c n:Nat} (h:∀i k,i<r->k<c->Q i k=Q' i k):jY Q r c n=jY Q' r c n:=oD n λi _=>⟨λh1 h2=>h1 (Dep.cg (λi k hi hk=>(h i k hi hk).symm) h2),λh1 h2=>h1 (Dep.cg h h2)⟩
noncomputable def bdL (Q:Nat->Nat->Rat) (m:Nat) (O:List Int):List Int:=(jY Q m O.length O.length).map λz=>O.getD z.toNat 0
abbrev boB (m S T:MatM) (n k:Nat) (L O:List Int):BL:=[(24,0,m.C),(24,0,S.C),(24,0,T.C),(3,1,dI n λj=>iC (if j<k then O.getD (atN L j) 0 else 0))]
theorem bIz {m S T:MatM} {n k:Nat} {L O:List Int}:scB 4 (boB m S T n k L O):=aB rfl (aB rfl (aB rfl (aB (bU (aX λ_ _=>rfl)) aY)))
abbrev boG (L O:Sl Int) (k:Nat):List (Nat×DV):=[(38,.c (iC k)),(36,.c (cD L)),(37,.c (iC (L.l.length:Nat))),(13,.c (.s 3 L.l.length)),(2,.c (cD O))]
abbrev cCw:FuncId:=60
theorem cUl:Ent Tryz.prog cCw:=aU func60 rfl kR
theorem cUm:Tryz.prog.funcs[cCw]? =some Tryz.f60:=func60
theorem cNl (m:MatM) (ch or:Sl Int) {M:Nat->List En} {a b B:Nat} {ρ κ:Nat->Nat} (h:Mr m M a b B) (hb:rbM M a B) (h1:1<=B) (hB:bd B (ch.l.length*or.l.length)<=4398046511104) (ha:a<=4096) (hbn:b<=4096) (hA:SelA a b or ch ρ κ):Ctr Tryz.prog cCw [] [.a m.C,.c (cD ch),.c (cD or)] [] (λg:Sl Int=>⟨.c (cD g),[],g.l=bdL (λl i=>Vm.get (M (ρ i)) (κ l:Nat)) ch.l.length or.l⟩):=by
 have hrl:=hA.rl
 have hcl:=hA.cl
 have hBB:B<=4398046511104:=aJ (kT (B:=B) (aC _)) hB
 have hok:∀k,k<or.l.length->VOk (M (ρ k)) (b:Nat):=λk hk=>(h.ok _ (hA.r k hk).2).1
 have hrS:rbM (λk=>jI κ ch.l.length (M (ρ k))) or.l.length B:=λk hk=>aKr (hb _ (hA.r k hk).2)
 refine aW gT cUl cUm rfl rfl rfl bL aS (aA gT mxd ⟨[],cCh m or ch h hb h1 hBB ha hbn hA,rfl,rfl,rfl,λS hS=>⟨[],cIp S (hS.mr hrS) hBB oM oM,rfl,rfl,rfl,λT hT=>⟨[],bIk T (hT.mr λj hj=>aKd h1 hrS λi hi=>(yH hA.m (hok i hi)).1) (λj hj=>aKd h1 hrS λi hi=>(yH hA.m (hok i hi)).1) h1 hB oM oM,rfl,rfl,rfl,λL hL=>?_⟩⟩⟩)
 replace hL:L.l=jY (λl i=>Vm.get (M (ρ i)) (κ l:Nat)) ch.l.length or.l.length or.l.length:=hL.trans (aLc λl i hl hi=>by
  show Vm.get (trM _ _ l) (i:Nat)=_
  rw[aUt hi,sD hA.m (hok i hi).1 hl])
 have hLl:L.l.length<=or.l.length:=by rw[hL];exact iD
 have hLa:∀k,k<L.l.length->L.l.getD k 0=(atN L.l k:Nat)/\atN L.l k<or.l.length:=λk hk=>by
  obtain⟨e1,e2⟩:=fL (P:=λj=>¬Dep (λl i=>Vm.get (M (ρ i)) (κ l:Nat)) ch.l.length or.l.length j) or.l.length
  rw[hL] at hk ⊢
  exact⟨e2 k hk,e1.lt k hk⟩
 refine⟨L.l.length,⟨rfl,rfl,by show 8*_<=_;omega,by simp only[maxLen];omega⟩,?_⟩
 refine cG (λ_=>true) (λk:Nat=>boG L or k) (λk=>boB m S T L.l.length k L.l or.l) (λ_=>[]) (λk=>k<=L.l.length) (λk=>L.l.length-k) λhM=>⟨bH hM (chg:=λk:Nat=>boG L or k) (bls:=λk=>boB m S T L.l.length k L.l or.l) (fls:=λ_=>[]) 0 (aC _) rfl ⟨rfl,rfl,rfl,?_⟩ trivial ⟨rfl,rfl,rfl,rfl,rfl⟩ bL bIz rfl,λk hk=>aA gT mxd ⟨λh2=>aA gT mxd ?_,λh2=>aA gT mxd ?_⟩⟩
 ·show(3,1,List.replicate _ (iC 0))=_
  rw[rY]
  exact congrArg (λl=>((3,1,l):TypeId×Nat×List CV)) (gA λx _=>rfl)
 ·replace h2:(k:Int)<(L.l.length:Nat):=h2
  have hkn:k<L.l.length:=by omega
  obtain⟨c1,c2⟩:=hLa k hkn
  refine⟨k,⟨rfl,hkn⟩,atN L.l k,⟨c1,c2⟩,k,⟨rfl,hkn,cQ hkn⟩,_,gU (Q:=λj=>iC (if j<k+1 then or.l.getD (atN L.l j) 0 else 0)) hkn (λj hj=>?_),(k+1:Nat),wi,bH hM (chg:=λk:Nat=>boG L or k) (bls:=λk=>boB m S T L.l.length k L.l or.l) (fls:=λ_=>[]) (k+1) ⟨hkn,show L.l.length-(k+1)<L.l.length-k by omega⟩ rfl ⟨rfl,rfl,rfl,rfl⟩ trivial ⟨rfl,rfl,rfl,rfl,rfl⟩ bL bIz rfl⟩
  by_cases e:j=k
  ·rw[if_pos e,if_pos oM,e]
  rw[if_neg e]
  by_cases e2:j<k
  ·rw[if_pos e2,if_pos oM]
  rw[if_neg e2,if_neg oM]
 replace h2:¬(k:Int)<(L.l.length:Nat):=h2
 obtain rfl:k=L.l.length:=by omega
 show Sd _ _ _ _ _ _
 refine rT 13 3 (λj=>[iC ((bdL (λl i=>Vm.get (M (ρ i)) (κ l:Nat)) ch.l.length or.l).getD j 0)]) rfl rfl (λj hj=>?_) (by rw[dB,bI]) bL (aX λ_ _=>rfl) bL λA c _ _=>aA gT mxd ⟨⟨A,c,bdL (λl i=>Vm.get (M (ρ i)) (κ l:Nat)) ch.l.length or.l⟩,rfl,aM ?_ rfl trivial⟩
 ·rw[aWl hj,if_pos hj]
  unfold bdL
  rw[<-hL]
  simp[aD,hj,atN]
 show CV.r A L.l.length c 1 _=CV.r A (bdL _ _ _).length c 1 _
 rw[show(bdL (λl i=>Vm.get (M (ρ i)) (κ l:Nat)) ch.l.length or.l).length=L.l.length by unfold bdL;rw[<-hL,aN]]
theorem cCx {L:List Int} {n:Nat} (h:∀z∈L,∃k:Nat,z=(k:Nat)/\k<n) {k:Nat} (hk:k<L.length):L.getD k 0=(atN L k:Nat)/\atN L k<n:=by
 obtain⟨j,e,hj⟩:=h (L.getD k 0) (fO hk)
 unfold atN
 rw[e]
 exact⟨rfl,hj⟩
theorem aHj:∀n,gF (λ_=>True) n=(List.range n).map λk:Nat=>(k:Int)
 |0=>rfl
 |n+1=>by rw[jP trivial,aHj n,gQ,bG];rfl
noncomputable abbrev wnL (p:ProgM) (b:BasM):List Int:=gF (λj=>b.c.l.getD j 0=2) (min p.c.l.length b.c.l.length)
noncomputable abbrev wnQ (p:ProgM) (q:PrQ) (b:BasM) (i k:Nat):Rat:=Vm.get (q.M i) (atN (wnL p b) k:Nat)
noncomputable abbrev iI (p:ProgM) (q:PrQ) (b:BasM):List Int:=jY (wnQ p q b) p.r.l.length (wnL p b).length (wnL p b).length
noncomputable abbrev orL (p:ProgM) (b:BasM):List Int:=(lfO b.r p.r.l.length).reverse
noncomputable abbrev ltL (p:ProgM) (q:PrQ) (b:BasM):List Int:=bdL (λl i=>wnQ p q b (atN (orL p b) i) (atN (iI p q b) l)) (iI p q b).length (orL p b)
open Classical in
noncomputable def stC (c:ColM) (l:List Int) (j:Nat):Int:=if (j<l.length/\l.getD j 0≠2)/\Pmt c (l.getD j 0) then l.getD j 0 else dfC c
structure RpR (p:ProgM) (q:PrQ) (b g:BasM):Prop where
 cl:g.c.l.length=p.c.l.length
 rl:g.r.l.length=p.r.l.length
 c2:∀k,k<(iI p q b).length->g.c.l.getD (atN (wnL p b) (atN (iI p q b) k)) 0=2
 c0:∀j,j<p.c.l.length->(∀k,k<(iI p q b).length->atN (wnL p b) (atN (iI p q b) k)≠j)->g.c.l.getD j 0=stC (p.c.l.getD j default) b.c.l j
 r0:∀k,k<(ltL p q b).length->g.r.l.getD (atN (ltL p q b) k) 0=dfR (p.r.l.getD (atN (ltL p q b) k) default).s
 r2:∀i,i<p.r.l.length->(∀k,k<(ltL p q b).length->atN (ltL p q b) k≠i)->g.r.l.getD i 0=2
theorem aWm {x:Sl Int} {n:Nat} {z:Int} (h:z∈lfO x n):∃k:Nat,z=(k:Nat)/\k<n:=by
 unfold lfO at h
 rcases aQ.1 h with h|h
 all_goals
  obtain⟨k,h1,h2,_⟩:=oX.1 h
  exact⟨k,h1,h2⟩
theorem zF {p:ProgM} {b:BasM} {k:Nat} (hk:k<(orL p b).length):(orL p b).getD k 0=(atN (orL p b) k:Nat)/\atN (orL p b) k<p.r.l.length:=cCx (λz hz=>aWm (List.mem_reverse.1 hz)) hk
theorem tH {p:ProgM} {b:BasM}:(orL p b).length=p.r.l.length:=by rw[rC,vT]
theorem zG {p:ProgM} {b:BasM} {k:Nat} (hk:k<(wnL p b).length):(wnL p b).getD k 0=(atN (wnL p b) k:Nat)/\atN (wnL p b) k<min p.c.l.length b.c.l.length/\b.c.l.getD (atN (wnL p b) k) 0=2:=by
 obtain⟨e1,e2⟩:=fL (P:=λj=>b.c.l.getD j 0=2) (min p.c.l.length b.c.l.length)
 exact⟨e2 k hk,e1.lt k hk,e1.mem k hk⟩
theorem aAw {p:ProgM} {q:PrQ} {b:BasM} {k:Nat} (hk:k<(iI p q b).length):(iI p q b).getD k 0=(atN (iI p q b) k:Nat)/\atN (iI p q b) k<(wnL p b).length:=by
 obtain⟨e1,e2⟩:=fL (P:=λj=>¬Dep (wnQ p q b) p.r.l.length (wnL p b).length j) (wnL p b).length
 exact⟨e2 k hk,e1.lt k hk⟩
theorem aSl {p:ProgM} {q:PrQ} {b:BasM} {k:Nat} (hk:k<(ltL p q b).length):(ltL p q b).getD k 0=(atN (ltL p q b) k:Nat)/\atN (ltL p q b) k<p.r.l.length:=cCx (λz hz=>by
 obtain⟨y,hy,rfl⟩:=cC.1 hz
 obtain⟨j,rfl,hj,_⟩:=oX.1 hy
 obtain⟨h1,h2⟩:=zF (p:=p) (b:=b) (k:=j) hj
 exact⟨_,h1,h2⟩) hk
def cUn:Ord:=.joinX [] [2000,1,2002,2004,5,2006] (.alt 3 (.alt 7 (trS [2008,9,1010]) (.alt 9 (trS [7,2008,1010]) .nil)) (.alt 7 (.alt 3 (trS [2008,9,1010]) (.alt 9 (trS [3,2008,1010]) .nil)) (.alt 9 (.alt 3 (trS [7,2008,1010]) (.alt 7 (trS [3,2008,1010]) .nil)) .nil)))
abbrev tV (p:ProgM) (b:BasM) (m:MatM) (F G:Nat->Int):BL:=[(42,0,p.C),(45,0,b.C),(45,0,[.v (.slice none 0 0),.v (.slice none 0 0)]),(24,0,m.C),(3,1,dI p.c.l.length λj=>iC (F j)),(3,1,dI p.r.l.length λj=>iC (G j)),(45,0,[.s 4 p.c.l.length,.s 5 p.r.l.length])]
theorem oY {p:ProgM} {b:BasM} {m:MatM} {F G:Nat->Int}:scB 7 (tV p b m F G):=aB rfl (aB rfl (aB rfl (aB rfl (aB (bU (aX λ_ _=>rfl)) (aB (bU (aX λ_ _=>rfl)) (aB rfl aY))))))
abbrev aOj (W ch:Sl Int):List (Nat×DV):=[(2,.c (.p 0 0)),(3,.c (.p 1 0)),(4,.c (.p 2 0)),(9,.c (.p 3 0)),(8,.c (cD W)),(10,.c (cD ch)),(12,.c (.p 6 0))]
abbrev bJa (p:ProgM) (W ch:Sl Int) (k:Nat):List (Nat×DV):=(60,.c (iC k))::(58,.c (rZ p.c))::(59,.c (iC (p.c.l.length:Nat)))::aOj W ch
noncomputable abbrev aCr (p:ProgM) (b:BasM) (k j:Nat):Int:=if j<k then stC (p.c.l.getD j default) b.c.l j else 0
theorem bJb {p:ProgM} {b:BasM} {k:Nat} {v:Int} (hv:v=stC (p.c.l.getD k default) b.c.l k) (j:Nat):(if j=k then v else aCr p b k j)=aCr p b (k+1) j:=by
 by_cases e:j=k
 ·rw[if_pos e,e,hv];exact(if_pos (bF k)).symm
 rw[if_neg e]
 show(if j<k then _ else _)=if j<k+1 then _ else _
 by_cases e2:j<k
 ·rw[if_pos e2,if_pos oM]
 rw[if_neg e2,if_neg oM]
theorem bJc {p:ProgM} {b:BasM} {k n:Nat} {v:Int} (hv:v=stC (p.c.l.getD k default) b.c.l k):((3,1,dI n λj=>iC (if j=k then v else aCr p b k j)):TypeId×Nat×List CV)=(3,1,dI n λj=>iC (aCr p b (k+1) j)):=congrArg (λl=>((3,1,l):TypeId×Nat×List CV)) (gA λj _=>by rw[bJb hv])
theorem zH {n j:Nat} {F:Nat->Int} {v:Int} (h:j<n):mD (dI n λi=>iC (F i)) (j*1) [iC v]=(dI n λi=>iC (if i=j then v else F i))/\j*1+1<=(dI n λi=>iC (F i)).length:=gU (Q:=λi=>iC (if i=j then v else F i)) h λi _=>by
 by_cases e:i=j
 ·rw[if_pos e,if_pos e]
 rw[if_neg e,if_neg e]
abbrev cCy (W ch:Sl Int) (k:Nat):List (Nat×DV):=(105,.c (iC k))::(103,.c (cD ch))::(104,.c (iC (ch.l.length:Nat)))::aOj W ch
abbrev cCz (p:ProgM) (W ch:Sl Int) (k:Nat):List (Nat×DV):=(120,.c (iC k))::(119,.c (iC (p.r.l.length:Nat)))::aOj W ch
abbrev cDa (W ch lt:Sl Int) (k:Nat):List (Nat×DV):=(138,.c (iC k))::(136,.c (cD lt))::(137,.c (iC (lt.l.length:Nat)))::aOj W ch
theorem cDb {Q Q':Nat->Nat->Rat} {m:Nat} {O:List Int} (h:∀i k,i<m->k<O.length->Q i k=Q' i k):bdL Q m O=bdL Q' m O:=by unfold bdL;rw[aLc h]
theorem sE {n:Nat} {F:Nat->Int}:(dI n λj=>iC (F j))=((List.range n).map F).map iC:=by unfold dI;rw[kO];rfl
theorem zI {n j:Nat} {F:Nat->Int} (hj:j<n):((List.range n).map F).getD j 0=F j:=by simp[aD,hj]
abbrev cDc (p:ProgM) (b:BasM) (m:MatM) (C R:List Int):BL:=[(42,0,p.C),(45,0,b.C),(45,0,[.v (.slice none 0 0),.v (.slice none 0 0)]),(24,0,m.C),(3,1,C.map iC),(3,1,R.map iC),(45,0,[.s 4 C.length,.s 5 R.length])]
theorem bPp {p:ProgM} {b:BasM} {m:MatM} {F G:Nat->Int}:tV p b m F G=cDc p b m ((List.range p.c.l.length).map F) ((List.range p.r.l.length).map G):=by
 unfold tV cDc
 rw[sE,sE,aN,aN,fJ,fJ]
abbrev bPq:FuncId:=18
theorem cUo:Ent Tryz.prog bPq:=aU func18 rfl kR
theorem cUp:Tryz.prog.funcs[bPq]? =some Tryz.f18:=func18
theorem cNm (p:ProgM) (b:BasM) {q:PrQ} {B:Nat} (h:PrV p q B) (hr:p.r.l.length<=12) (hc:p.c.l.length<=12) (hB:bd B (p.r.l.length*p.c.l.length)<=4398046511104):Ctr Tryz.prog bPq [] [.a p.C,.a b.C] [] (λg:BasM=>⟨.t [.a g.C,.c (iC 0)],[],RpR p q b g⟩):=by
 classical
 have hBB:B<=4398046511104:=h.hB
 have h1:=h.h1
 have hWl:(wnL p b).length<=p.c.l.length:=aJ iD (wH _ _)
 have hCl:(iI p q b).length<=(wnL p b).length:=iD
 have n2:Ctr Tryz.prog aOb [true] [.c (iC (min (p.c.l.length:Int) (b.c.l.length:Int))),(KpS.o b).V aOc] (KpS.o b).B (λg:Sl Int=>⟨.c (cD g),(KpS.o b).B,g.l=fR (λj=>b.c.l.getD j 0=2) (min p.c.l.length b.c.l.length)⟩):=by
  have n:=bSc (.o b) aOc (min p.c.l.length b.c.l.length) (λj=>b.c.l.getD j 0=2) oM λi hi=>cBq b i oM
  rw[show((min p.c.l.length b.c.l.length:Nat):Int)=min (p.c.l.length:Int) (b.c.l.length:Int) by omega] at n
  exact n
 refine aW gT cUo cUp rfl rfl rfl bL aS (aA gT mxd ⟨[],aKo p h,rfl,rfl,rfl,λ_ _=>⟨λhh=>absurd rfl hh,λ_=>aA gT mxd ⟨[],bSc .z aVv p.r.l.length (λ_=>True) oM λi _=>cBp i,rfl,rfl,rfl,λal hal=>⟨[1],n2,rfl,rfl,rfl,λW hW=>?_⟩⟩⟩⟩)
 replace hal:al.l=(List.range p.r.l.length).map λk:Nat=>(k:Int):=by rw[<-aHj,<-tG];exact hal
 replace hW:W.l=wnL p b:=(show W.l=_ from hW).trans (tG _)
 have hall:al.l.length=p.r.l.length:=by rw[hal];simp
 have hCA:CofA p al W (λk=>k) (atN (wnL p b)):=⟨λk hk=>⟨by rw[hall] at hk;rw[hal];simp[aD,hk],by show k<_;omega⟩,λk hk=>by
  rw[hW] at hk ⊢
  have:=(zG hk).2.1
  exact⟨(zG hk).1,by omega⟩,λk l hkl hl=>by
  rw[hW] at hl
  exact(fL (P:=λj=>b.c.l.getD j 0=2) _).1.mono k l hkl hl,by omega,by rw[hW];omega⟩
 refine⟨[],bRz p al W h hCA,rfl,rfl,rfl,λm hm=>?_⟩
 rw[hall,hW] at hm
 replace hm:Mr m (λk=>jI (atN (wnL p b)) (wnL p b).length (q.M k)) p.r.l.length (wnL p b).length B:=hm
 have hmb:rbM (λk=>jI (atN (wnL p b)) (wnL p b).length (q.M k)) p.r.l.length B:=λk hk=>aKr (h.e k hk)
 have hmm:∀k l,k<l->l<(wnL p b).length->atN (wnL p b) k<atN (wnL p b) l:=(fL (P:=λj=>b.c.l.getD j 0=2) _).1.mono
 have hmQ:∀i k,i<p.r.l.length->k<(wnL p b).length->mQ (λk=>jI (atN (wnL p b)) (wnL p b).length (q.M k)) i k=wnQ p q b i k:=λi k hi hk=>sD hmm (h.v i hi).2.1 hk
 have hBf:bd B (p.r.l.length*(wnL p b).length)<=4398046511104:=aJ (kT (cZ _ hWl)) hB
 refine⟨[],bIk m hm hmb h1 hBf hr oM,rfl,rfl,rfl,λch hch=>?_⟩
 replace hch:ch.l=iI p q b:=(show ch.l=_ from hch).trans (aLc hmQ)
 refine⟨cUn,by kernel_rfl,Unit,λ_=>⟨aOj W ch++[],[],tV p b m (λ_=>0) λ_=>0,[]⟩,λ_=>True,?_,λ_ _=>?_⟩
 ·have k1:p.c.l.length<=maxLen:=by simp only[maxLen];omega
  have k2:p.r.l.length<=maxLen:=by simp only[maxLen];omega
  have fin1:∀(sl:List (Nat×DV)),wD (λ_=>true) [] [] [] sl->AllC sl (aOj W ch)->Gt 0 ⟨sl,[],[(42,0,p.C),(45,0,b.C),(45,0,[.v (.slice none 0 0),.v (.slice none 0 0)]),(24,0,m.C),(3,1,List.replicate p.c.l.length (iC 0)),(3,1,List.replicate p.r.l.length (iC 0)),(45,0,[.s 4 p.c.l.length,.s 5 p.r.l.length])],[]⟩ (σ:=Unit) (λ_=>⟨aOj W ch++[],[],tV p b m (λ_=>0) λ_=>0,[]⟩) λ_=>True:=λsl ht ha=>by
   refine @bH 0 _ (λ_=>true) [] (λt d ht=>by cases ht) Unit (λ_=>aOj W ch) (λ_=>tV p b m (λ_=>0) λ_=>0) (λ_=>[]) _ () trivial ht ?_ trivial ha (aC _) oY rfl
   rw[rY,rY]
   exact⟨rfl,rfl,rfl,rfl,rfl,rfl,rfl⟩
  have e1:∀{i j:Nat} {n:Nat},(List.replicate n (iC 0)).map (swC i j)=List.replicate n (iC 0):=rpm aO rfl
  refine⟨⟨p.c.l.length,⟨rfl,rfl,by show 8*_<=_;omega,k1⟩,rfl,⟨p.r.l.length,⟨rfl,rfl,by show 8*_<=_;omega,k2⟩,rfl,rfl,?_⟩,⟨rfl,p.r.l.length,⟨rfl,rfl,by show 8*_<=_;omega,k2⟩,rfl,?_⟩⟩,⟨p.r.l.length,⟨rfl,rfl,by show 8*_<=_;omega,k2⟩,rfl,⟨p.c.l.length,⟨rfl,rfl,by show 8*_<=_;omega,k1⟩,rfl,rfl,?_⟩,⟨rfl,p.c.l.length,⟨rfl,rfl,by show 8*_<=_;omega,k1⟩,rfl,?_⟩⟩,⟨rfl,⟨p.c.l.length,⟨rfl,rfl,by show 8*_<=_;omega,k1⟩,rfl,p.r.l.length,⟨rfl,rfl,by show 8*_<=_;omega,k2⟩,rfl,?_⟩,⟨p.r.l.length,⟨rfl,rfl,by show 8*_<=_;omega,k2⟩,rfl,p.c.l.length,⟨rfl,rfl,by show 8*_<=_;omega,k1⟩,rfl,?_⟩⟩⟩
  ·exact fin1 _ (by rfl) (by exact⟨rfl,rfl,rfl,rfl,rfl,rfl,rfl⟩)
  ·exact gsw 5 6 rfl rfl bL bL rfl ⟨_,e1,_,e1,bL,fin1 _ (by rfl) (by exact⟨rfl,rfl,rfl,rfl,rfl,rfl,rfl⟩)⟩
  ·exact gsw 4 5 rfl rfl bL bL rfl ⟨_,e1,_,e1,bL,fin1 _ (by rfl) (by exact⟨rfl,rfl,rfl,rfl,rfl,rfl,rfl⟩)⟩
  ·exact gsw 4 6 rfl rfl bL bL rfl ⟨_,e1,_,e1,bL,gsw 5 6 rfl rfl bL bL rfl ⟨_,e1,_,e1,bL,fin1 _ (by rfl) (by exact⟨rfl,rfl,rfl,rfl,rfl,rfl,rfl⟩)⟩⟩
  ·exact gsw 4 5 rfl rfl bL bL rfl ⟨_,e1,_,e1,bL,gsw 5 6 rfl rfl bL bL rfl ⟨_,e1,_,e1,bL,fin1 _ (by rfl) (by exact⟨rfl,rfl,rfl,rfl,rfl,rfl,rfl⟩)⟩⟩
  exact gsw 4 6 rfl rfl bL bL rfl ⟨_,e1,_,e1,bL,fin1 _ (by rfl) (by exact⟨rfl,rfl,rfl,rfl,rfl,rfl,rfl⟩)⟩
 refine cG (λ_=>true) (λk:Nat=>bJa p W ch k) (λk=>tV p b m (aCr p b k) λ_=>0) (λ_=>[]) (λk=>k<=p.c.l.length) (λk=>p.c.l.length-k) λhM=>⟨bH hM (chg:=λk:Nat=>bJa p W ch k) (bls:=λk=>tV p b m (aCr p b k) λ_=>0) (fls:=λ_=>[]) 0 (aC _) rfl ⟨rfl,rfl,rfl,rfl,rfl,rfl,rfl⟩ trivial ⟨rfl,rfl,rfl,rfl,rfl,rfl,rfl,rfl,rfl,rfl⟩ bL oY rfl,λk hk=>aA gT mxd ⟨λh2=>aA gT mxd ?_,λh2=>aA gT mxd ?_⟩⟩
 ·replace h2:(k:Int)<(p.c.l.length:Nat):=h2
  have hkn:k<p.c.l.length:=by omega
  refine⟨k,⟨rfl,hkn⟩,.seq [(0,false),(1,false),(2,false),(3,false),(4,false),(5,false),(6,true)],by kernel_rfl,[],cLe (p.c.l.getD k default),rfl,rfl,rfl,λ_ _=>⟨k,⟨rfl,hkn,cQ hkn⟩,_,zH hkn,.seq [(0,false),(1,false),(2,false),(3,false),(4,false),(5,false),(6,false),(7,false),(8,false),(9,false),(10,false),(11,false),(12,false),(13,false),(14,false),(15,false),(16,false),(17,false),(18,false),(19,false),(20,true),(21,false)],by kernel_rfl,k,λh5=>⟨rfl,?_⟩,k,λh13=>⟨rfl,?_⟩,λh1=>⟨[],bRv (p.c.l.getD k default) (b.c.l.getD k 0),rfl,rfl,rfl,λ_ _=>⟨λh4=>aA gT mxd ?_,λh4=>aA gT mxd ?_⟩⟩,λh1=>?_⟩⟩
  ·replace h5:(k:Int)<(b.c.l.length:Nat):=h5
   omega
  ·replace h13:(k:Int)<(b.c.l.length:Nat)/\_:=h13
   omega
  ·replace h1:(k:Int)<(b.c.l.length:Nat)/\b.c.l.getD k 0≠2:=h1
   have hkb:k<b.c.l.length:=by omega
   have hv:b.c.l.getD k 0=stC (p.c.l.getD k default) b.c.l k:=(if_pos ⟨⟨hkb,h1.2⟩,h4⟩).symm
   exact⟨.seq [(0,false),(1,false),(2,false),(3,false),(4,false),(5,false),(6,false),(7,false),(8,false),(9,true)],by kernel_rfl,k,⟨rfl,hkb⟩,k,⟨rfl,hkn,cQ hkn⟩,_,zH hkn,(k+1:Nat),wi,bH hM (chg:=λk:Nat=>bJa p W ch k) (bls:=λk=>tV p b m (aCr p b k) λ_=>0) (fls:=λ_=>[]) (k+1) ⟨hkn,show p.c.l.length-(k+1)<p.c.l.length-k by omega⟩ rfl ⟨rfl,rfl,rfl,rfl,(congrArg (λl=>((3,1,l):TypeId×Nat×List CV)) (gA λj _=>by rw[<-bJb hv];by_cases e:j=k<;>simp[e])),rfl,rfl⟩ trivial ⟨rfl,rfl,rfl,rfl,rfl,rfl,rfl,rfl,rfl,rfl⟩ bL oY rfl⟩
  ·have hv:dfC (p.c.l.getD k default)=stC (p.c.l.getD k default) b.c.l k:=(if_neg λhh=>h4 hh.2).symm
   exact⟨(k+1:Nat),wi,bH hM (chg:=λk:Nat=>bJa p W ch k) (bls:=λk=>tV p b m (aCr p b k) λ_=>0) (fls:=λ_=>[]) (k+1) ⟨hkn,show p.c.l.length-(k+1)<p.c.l.length-k by omega⟩ rfl ⟨rfl,rfl,rfl,rfl,bJc hv,rfl,rfl⟩ trivial ⟨rfl,rfl,rfl,rfl,rfl,rfl,rfl,rfl,rfl,rfl⟩ bL oY rfl⟩
  replace h1:¬((k:Int)<(b.c.l.length:Nat)/\b.c.l.getD k 0≠2):=h1
  have hv:dfC (p.c.l.getD k default)=stC (p.c.l.getD k default) b.c.l k:=(if_neg λhh=>h1 ⟨by have:=hh.1.1;omega,hh.1.2⟩).symm
  exact⟨(k+1:Nat),wi,bH hM (chg:=λk:Nat=>bJa p W ch k) (bls:=λk=>tV p b m (aCr p b k) λ_=>0) (fls:=λ_=>[]) (k+1) ⟨hkn,show p.c.l.length-(k+1)<p.c.l.length-k by omega⟩ rfl ⟨rfl,rfl,rfl,rfl,bJc hv,rfl,rfl⟩ trivial ⟨rfl,rfl,rfl,rfl,rfl,rfl,rfl,rfl,rfl,rfl⟩ bL oY rfl⟩
 replace h2:¬(k:Int)<(p.c.l.length:Nat):=h2
 obtain rfl:k=p.c.l.length:=by omega
 have hchl:ch.l.length<=12:=by rw[hch];omega
 have hCh:∀l,l<ch.l.length->ch.l.getD l 0=(atN (iI p q b) l:Nat)/\atN (iI p q b) l<W.l.length:=λl hl=>by rw[hch] at hl ⊢;rw[hW];exact aAw hl
 have hKp:∀l,l<ch.l.length->W.l.getD (atN (iI p q b) l) 0=(atN (wnL p b) (atN (iI p q b) l):Nat)/\atN (wnL p b) (atN (iI p q b) l)<p.c.l.length:=λl hl=>by
  have h3:=(hCh l hl).2
  rw[hW] at h3 ⊢
  have:=(zG h3).2.1
  exact⟨(zG h3).1,by omega⟩
 refine aA gT mxd ?_
 show Sd _ _ _ _ _ _
 refine cG (λ_=>true) (λg:Nat×(Nat->Int)=>cCy W ch g.1) (λg=>tV p b m g.2 λ_=>0) (λ_=>[]) (λg=>g.1<=ch.l.length/\(∀l,l<g.1->g.2 (atN (wnL p b) (atN (iI p q b) l))=2)/\∀j,(∀l,l<g.1->atN (wnL p b) (atN (iI p q b) l)≠j)->g.2 j=aCr p b p.c.l.length j) (λg=>ch.l.length-g.1) λhM=>⟨bH hM (chg:=λg:Nat×(Nat->Int)=>cCy W ch g.1) (bls:=λg=>tV p b m g.2 λ_=>0) (fls:=λ_=>[]) (0,aCr p b p.c.l.length) ⟨aC _,λl hl=>absurd hl (aF _),λj _=>rfl⟩ rfl ⟨rfl,rfl,rfl,rfl,rfl,rfl,rfl⟩ trivial ⟨rfl,rfl,rfl,rfl,rfl,rfl,rfl,rfl,rfl,rfl⟩ bL oY rfl,λ⟨k,F⟩ ⟨hk2,hF2,hF0⟩=>aA gT mxd ⟨λh3=>aA gT mxd ?_,λh3=>aA gT mxd ?_⟩⟩
 all_goals
  replace hk2:k<=ch.l.length:=hk2
  replace hF2:∀l,l<k->F (atN (wnL p b) (atN (iI p q b) l))=2:=hF2
  replace hF0:∀j,(∀l,l<k->atN (wnL p b) (atN (iI p q b) l)≠j)->F j=aCr p b p.c.l.length j:=hF0
 ·replace h3:(k:Int)<(ch.l.length:Nat):=h3
  have hkn:k<ch.l.length:=by omega
  obtain⟨c1,c2⟩:=hCh k hkn
  obtain⟨c3,c4⟩:=hKp k hkn
  refine⟨k,⟨rfl,hkn⟩,.seq [(0,false),(1,false),(2,false),(3,false),(4,false),(5,false),(6,false),(7,true)],by kernel_rfl,atN (iI p q b) k,⟨c1,c2⟩,atN (wnL p b) (atN (iI p q b) k),⟨c3,c4,cQ c4⟩,_,zH c4,(k+1:Nat),wi,bH hM (chg:=λg:Nat×(Nat->Int)=>cCy W ch g.1) (bls:=λg=>tV p b m g.2 λ_=>0) (fls:=λ_=>[]) (k+1,λj=>if j=atN (wnL p b) (atN (iI p q b) k) then 2 else F j) ⟨⟨hkn,λl hl=>?_,λj hno=>?_⟩,show ch.l.length-(k+1)<ch.l.length-k by omega⟩ rfl ⟨rfl,rfl,rfl,rfl,rfl,rfl,rfl⟩ trivial ⟨rfl,rfl,rfl,rfl,rfl,rfl,rfl,rfl,rfl,rfl⟩ bL oY rfl⟩
  ·show(if _ then 2 else F _)=2
   by_cases e:atN (wnL p b) (atN (iI p q b) l)=atN (wnL p b) (atN (iI p q b) k)
   ·rw[if_pos e]
   rw[if_neg e]
   refine hF2 l ?_
   have hl':l<k+1:=hl
   by_cases e2:l=k
   ·exact absurd (by rw[e2]) e
   omega
  show(if _ then 2 else F j)=_
  rw[if_neg λe=>hno k (bF k) e.symm]
  exact hF0 j λl hl=>hno l (eO hl)
 replace h3:¬(k:Int)<(ch.l.length:Nat):=h3
 obtain rfl:k=ch.l.length:=by omega
 refine aA gT mxd ?_
 show Sd _ _ _ _ _ _
 refine cG (λ_=>true) (λk:Nat=>cCz p W ch k) (λk=>tV p b m F λj=>if j<k then 2 else 0) (λ_=>[]) (λk=>k<=p.r.l.length) (λk=>p.r.l.length-k) λhM=>⟨bH hM (chg:=λk:Nat=>cCz p W ch k) (bls:=λk=>tV p b m F λj=>if j<k then 2 else 0) (fls:=λ_=>[]) 0 (aC _) rfl ⟨rfl,rfl,rfl,rfl,rfl,rfl,rfl⟩ trivial ⟨rfl,rfl,rfl,rfl,rfl,rfl,rfl,rfl,rfl⟩ bL oY rfl,λk hk=>aA gT mxd ⟨λh4=>aA gT mxd ?_,λh4=>aA gT mxd ?_⟩⟩
 ·replace h4:(k:Int)<(p.r.l.length:Nat):=h4
  have hkn:k<p.r.l.length:=by omega
  refine⟨k,⟨rfl,hkn,cQ hkn⟩,_,gU (Q:=λj=>iC (if j<k+1 then 2 else 0)) hkn (λj hj=>?_),(k+1:Nat),wi,bH hM (chg:=λk:Nat=>cCz p W ch k) (bls:=λk=>tV p b m F λj=>if j<k then 2 else 0) (fls:=λ_=>[]) (k+1) ⟨hkn,show p.r.l.length-(k+1)<p.r.l.length-k by omega⟩ rfl ⟨rfl,rfl,rfl,rfl,rfl,rfl,rfl⟩ trivial ⟨rfl,rfl,rfl,rfl,rfl,rfl,rfl,rfl,rfl⟩ bL oY rfl⟩
  by_cases e:j=k
  ·rw[if_pos e,if_pos oM];rfl
  rw[if_neg e]
  show iC (if j<k then 2 else 0)=iC (if j<k+1 then 2 else 0)
  by_cases e2:j<k
  ·rw[if_pos e2,if_pos oM]
  rw[if_neg e2,if_neg oM]
 replace h4:¬(k:Int)<(p.r.l.length:Nat):=h4
 obtain rfl:k=p.r.l.length:=by omega
 refine aA gT mxd ⟨.seq [(0,false),(1,false),(2,false),(3,false),(4,false),(5,false),(6,false),(10,false),(7,false),(8,true),(9,false)],by kernel_rfl,[],bPo b.r p.r.l.length oM,rfl,rfl,rfl,λor hor=>?_⟩
 replace hor:or.l=orL p b:=hor
 have hol:or.l.length=p.r.l.length:=by rw[hor];exact tH
 have hSA:SelA p.r.l.length (wnL p b).length or ch (atN (orL p b)) (atN (iI p q b)):=⟨λk hk=>by rw[hor] at hk ⊢;exact zF hk,λk hk=>by rw[<-hW];exact hCh k hk,λk l hkl hl=>by
  rw[hch] at hl
  exact(fL (P:=λj=>¬Dep (wnQ p q b) p.r.l.length (wnL p b).length j) _).1.mono k l hkl hl,by omega,by rw[hch];omega⟩
 refine⟨[],cNl m ch or hm hmb h1 (aJ (kT (by rw[hol,bO,hch];exact cZ _ oM)) hB) oM oM hSA,rfl,rfl,rfl,λlt hlt=>?_⟩
 replace hlt:lt.l=ltL p q b:=by
  refine(show lt.l=_ from hlt).trans ?_
  rw[hor,hch]
  exact cDb λl i hl hi=>hmQ _ _ (zF hi).2 (aAw hl).2
 have hLt:∀l,l<lt.l.length->lt.l.getD l 0=(atN (ltL p q b) l:Nat)/\atN (ltL p q b) l<p.r.l.length:=λl hl=>by rw[hlt] at hl ⊢;exact aSl hl
 have hltl:lt.l.length<=12:=by
  rw[hlt]
  unfold ltL bdL
  rw[aN]
  have:=aFp (Q:=λl i=>wnQ p q b (atN (orL p b) i) (atN (iI p q b) l)) (a:=(iI p q b).length) (b:=(orL p b).length) (k:=(orL p b).length)
  rw[<-hor,hol] at this
  rw[<-hor,hol]
  omega
 refine cG (λ_=>true) (λg:Nat×(Nat->Int)=>cDa W ch lt g.1) (λg=>tV p b m F g.2) (λ_=>[]) (λg=>g.1<=lt.l.length/\(∀l,l<g.1->g.2 (atN (ltL p q b) l)=dfR (p.r.l.getD (atN (ltL p q b) l) default).s)/\∀i,i<p.r.l.length->(∀l,l<g.1->atN (ltL p q b) l≠i)->g.2 i=2) (λg=>lt.l.length-g.1) λhM=>⟨bH hM (chg:=λg:Nat×(Nat->Int)=>cDa W ch lt g.1) (bls:=λg=>tV p b m F g.2) (fls:=λ_=>[]) (0,λj=>if j<p.r.l.length then 2 else 0) ⟨aC _,λl hl=>absurd hl (aF _),λi hi _=>if_pos hi⟩ rfl ⟨rfl,rfl,rfl,rfl,rfl,rfl,rfl⟩ trivial ⟨rfl,rfl,rfl,rfl,rfl,rfl,rfl,rfl,rfl,rfl⟩ bL oY rfl,λ⟨k,G⟩ ⟨hk6,hG1,hG2⟩=>aA gT mxd ⟨λh6=>aA gT mxd ?_,λh6=>aA gT mxd ?_⟩⟩
 all_goals
  replace hk6:k<=lt.l.length:=hk6
  replace hG1:∀l,l<k->G (atN (ltL p q b) l)=dfR (p.r.l.getD (atN (ltL p q b) l) default).s:=hG1
  replace hG2:∀i,i<p.r.l.length->(∀l,l<k->atN (ltL p q b) l≠i)->G i=2:=hG2
 ·replace h6:(k:Int)<(lt.l.length:Nat):=h6
  have hkn:k<lt.l.length:=by omega
  obtain⟨c1,c2⟩:=hLt k hkn
  refine⟨k,⟨rfl,hkn⟩,.seq [(0,false),(1,false),(2,false),(3,false),(4,false),(5,false),(6,false),(7,false),(8,false),(9,false),(10,true)],by kernel_rfl,atN (ltL p q b) k,⟨c1,c2⟩,[],bRx (p.r.l.getD (atN (ltL p q b) k) default),rfl,rfl,rfl,λ_ _=>⟨atN (ltL p q b) k,⟨c1,c2,cQ c2⟩,_,zH c2,(k+1:Nat),wi,bH hM (chg:=λg:Nat×(Nat->Int)=>cDa W ch lt g.1) (bls:=λg=>tV p b m F g.2) (fls:=λ_=>[]) (k+1,λj=>if j=atN (ltL p q b) k then dfR (p.r.l.getD (atN (ltL p q b) k) default).s else G j) ⟨⟨hkn,λl hl=>?_,λi hi hno=>?_⟩,show lt.l.length-(k+1)<lt.l.length-k by omega⟩ rfl ⟨rfl,rfl,rfl,rfl,rfl,rfl,rfl⟩ trivial ⟨rfl,rfl,rfl,rfl,rfl,rfl,rfl,rfl,rfl,rfl⟩ bL oY rfl⟩⟩
  ·show(if _ then _ else G _)=_
   by_cases e:atN (ltL p q b) l=atN (ltL p q b) k
   ·rw[if_pos e,e]
   rw[if_neg e]
   refine hG1 l ?_
   have hl':l<k+1:=hl
   by_cases e2:l=k
   ·exact absurd (by rw[e2]) e
   omega
  show(if _ then _ else G i)=_
  rw[if_neg λe=>hno k (bF k) e.symm]
  exact hG2 i hi λl hl=>hno l (eO hl)
 replace h6:¬(k:Int)<(lt.l.length:Nat):=h6
 obtain rfl:k=lt.l.length:=by omega
 show Sd _ _ _ _ _ _
 rw[show tV p b m F (lt.l.length,G).snd=cDc p b m ((List.range p.c.l.length).map F) ((List.range p.r.l.length).map G) from bPp]
 obtain⟨CL,hCL⟩:∃CL,CL=(List.range p.c.l.length).map F:=⟨_,rfl⟩
 obtain⟨RL,hRL⟩:∃RL,RL=(List.range p.r.l.length).map G:=⟨_,rfl⟩
 rw[<-hCL,<-hRL]
 refine jV tSd 5 rfl bL (bK _) bL rfl λA a1=>⟨_,kV jN (bK _),iX tSd 6 0 [.s 4 CL.length,cD ⟨A.map λb=>⟨b,0,none⟩,a1,RL⟩] rfl rfl rfl rfl (oT (k0:=1) rfl aCq) ?_⟩
 refine jV tSd 4 rfl bL (bK _) bL rfl λA2 a2=>⟨_,rfl,iX tSd 6 1 [cD ⟨A2.map λb=>⟨b,0,none⟩,a2,CL⟩,cD ⟨A.map λb=>⟨b,0,none⟩,a1,RL⟩] rfl rfl rfl rfl (oT (k0:=0) rfl aCq) ?_⟩
 refine aA gT mxd ⟨⟨⟨A2.map λb=>⟨b,0,none⟩,a2,CL⟩,⟨A.map λb=>⟨b,0,none⟩,a1,RL⟩⟩,⟨by rw[hCL];simp,by rw[hRL];simp,λk hk=>?_,λj hj hno=>?_,λk hk=>?_,λi hi hno=>?_⟩,aM ⟨rfl,rfl⟩ rfl trivial⟩
 ·rw[<-hch] at hk
  show CL.getD _ 0=2
  rw[hCL,zI (hKp k hk).2];exact hF2 k hk
 ·show CL.getD j 0=_
  rw[hCL,zI hj,hF0 j λl hl=>hno l (by rw[<-hch];exact hl)];exact if_pos hj
 ·rw[<-hlt] at hk
  show RL.getD _ 0=_
  rw[hRL,zI (hLt k hk).2];exact hG1 k hk
 show RL.getD i 0=2
 rw[hRL,zI hi];exact hG2 i hi λl hl=>hno l (by rw[<-hlt];exact hl)
theorem aLd {n m:Nat} {e f:Nat->Nat} (hi:∀i j,i<n->j<n->e i=e j->i=j) (hs:∀i,i<n->∃k,k<m/\f k=e i):n<=m:=by
 have hF:Free (λk i=>if f k=e i then (1:Rat) else 0) m n:=λx hx i hin=>by
  obtain⟨k,hk,hfk⟩:=hs i hin
  have h1:cI (λj=>(if f k=e j then (1:Rat) else 0)*x j) n=0:=hx k hk
  rw[bM (g:=λj=>if j=i then x i else 0) λj hj=>by
   by_cases e1:j=i
   ·rw[if_pos e1,e1,if_pos hfk,iU]
   rw[if_neg e1,if_neg λh2=>e1 (hi j i hj hin (by rw[<-h2,hfk])),dQ]] at h1
  rw[jO (m:=i) hin λj hj=>if_neg hj,if_pos rfl] at h1
  exact h1
 exact hF.le
theorem Enm.uniq {P:Nat->Prop} {n m m':Nat} {e e':Nat->Nat} (h:Enm P n m e) (h':Enm P n m' e'):m=m':=by
 have h1:m<=m':=aLd (λi j hi hj=>h.inj hi hj) λi hi=>h'.all (e i) (h.lt i hi) (h.mem i hi)
 have h2:m'<=m:=aLd (λi j hi hj=>h'.inj hi hj) λi hi=>h.all (e' i) (h'.lt i hi) (h'.mem i hi)
 omega
theorem Enm.at {P:Nat->Prop} {n m m':Nat} {e e':Nat->Nat} (h:Enm P n m e) (h':Enm P n m' e'):∀k,k<m->e k=e' k:=λk=>by
 have hm:=h.uniq h'
 induction k using Nat.strongRecOn with
 |_ k ih=>
  intro hk
  obtain⟨a,ha,hae⟩:=h'.all (e k) (h.lt k hk) (h.mem k hk)
  obtain⟨c,hc,hce⟩:=h.all (e' k) (h'.lt k oM) (h'.mem k oM)
  rcases eT a k with h1|h1|h1
  ·have h2:=ih a h1 oM
   have:=h.inj (k:=a) (l:=k) oM hk oM
   omega
  ·rw[<-hae,h1]
  rcases eT c k with h3|h3|h3
  ·have h4:=ih c h3 hc
   have:=h'.inj (k:=c) (l:=k) oM oM oM
   omega
  ·rw[<-hce,h3]
  have h5:=h'.mono k a h1 ha
  have h6:=h.mono k c h3 hc
  omega
theorem Pmt.df (c:ColM):Pmt c (dfC c):=by
 unfold dfC
 by_cases h1:c.pl
 ·rw[if_pos h1];exact .inr (.inl ⟨rfl,h1⟩)
 rw[if_neg h1]
 by_cases h2:c.pu
 ·rw[if_pos h2];exact .inr (.inr (.inl ⟨rfl,h2⟩))
 rw[if_neg h2];exact .inr (.inr (.inr ⟨rfl,h1,h2⟩))
theorem cDd (c:ColM):dfC c≠2:=by
 unfold dfC
 split
 ·decide
 split<;>decide
theorem cDe (s:Int):dfR s≠2:=by unfold dfR;split<;>decide
theorem cDf (c:ColM) (l:List Int) (j:Nat):stC c l j≠2:=by
 unfold stC
 split
 ·next h=>exact h.1.2
 exact cDd c
theorem cDg (c:ColM) (l:List Int) (j:Nat):Pmt c (stC c l j):=by
 unfold stC
 split
 ·next h=>exact h.2
 exact Pmt.df c
theorem bPr {x:Sl Int} {n k:Nat} (hk:k<n):(k:Int)∈lfO x n:=by
 unfold lfO
 by_cases h:qJ x k
 ·exact aQ.2 (.inl (oX.2 ⟨k,rfl,hk,h⟩))
 exact aQ.2 (.inr (oX.2 ⟨k,rfl,hk,h⟩))
theorem aLe {p:ProgM} {b:BasM} {i:Nat} (hi:i<p.r.l.length):∃k,k<(orL p b).length/\atN (orL p b) k=i:=by
 obtain⟨k,hk,h2⟩:=List.getElem_of_mem (List.mem_reverse.2 (bPr (x:=b.r) hi))
 refine⟨k,hk,?_⟩
 have:=(zF (p:=p) (b:=b) hk).1
 rw[aD,aG hk] at this
 simp only[Option.getD_some] at this
 omega
theorem bPs {L O:List Int} {k:Nat} (hk:k<L.length):atN (L.map λz=>O.getD z.toNat 0) k=atN O (atN L k):=by
 unfold atN
 simp[aD,hk]
theorem aFu {a b:List Int} (hl:a.length=b.length) (h:∀k,k<b.length->a.getD k 0=b.getD k 0):a=b:=iN hl λk h1 h2=>by
 have:=h k h2
 rw[aD,aD,aG h1,aG h2] at this
 exact this
theorem bPt {L M:List Int} {k:Nat} (hk:k<L.length):atN (L.reverse++M) k=atN L (L.length-1-k):=by
 unfold atN
 rw[aD,aD,bA (by rw[rC];exact hk),List.getElem?_reverse hk]
section rep
variable {p:ProgM} {q:PrQ} {b g:BasM}
noncomputable abbrev kpN (p:ProgM) (q:PrQ) (b:BasM) (k:Nat):Nat:=atN (wnL p b) (atN (iI p q b) k)
theorem yJ:Enm (λj=>¬Dep (wnQ p q b) p.r.l.length (wnL p b).length j) (wnL p b).length (iI p q b).length (atN (iI p q b)):=(fL _).1
theorem cDh:Enm (λj=>b.c.l.getD j 0=2) (min p.c.l.length b.c.l.length) (wnL p b).length (atN (wnL p b)):=(fL _).1
noncomputable abbrev ltQ (p:ProgM) (q:PrQ) (b:BasM) (l i:Nat):Rat:=wnQ p q b (atN (orL p b) i) (atN (iI p q b) l)
noncomputable abbrev ltI (p:ProgM) (q:PrQ) (b:BasM):List Int:=jY (ltQ p q b) (iI p q b).length (orL p b).length (orL p b).length
theorem aLf:Enm (λi=>¬Dep (ltQ p q b) (iI p q b).length (orL p b).length i) (orL p b).length (ltI p q b).length (atN (ltI p q b)):=(fL _).1
theorem lt_len:(ltL p q b).length=(ltI p q b).length:=aN _
theorem bJd {k:Nat} (hk:k<(ltL p q b).length):atN (ltL p q b) k=atN (orL p b) (atN (ltI p q b) k):=by
 have hk':k<(ltI p q b).length:=by rw[<-lt_len];exact hk
 exact bPs hk'
theorem bSk:(ltL p q b).length=(iI p q b).length/\Free (λk l=>Vm.get (q.M (atN (ltL p q b) k)) (kpN p q b l:Nat)) (iI p q b).length (iI p q b).length:=by
 have hf:=(yJ (p:=p) (q:=q) (b:=b)).free
 have hf2:Free (λi l=>ltQ p q b l i) (orL p b).length (iI p q b).length:=λx hx=>hf x λi hi=>by
  obtain⟨k,hk,rfl⟩:=aLe (p:=p) (b:=b) hi
  exact hx k hk
 obtain⟨h1,h2⟩:=aLf.square hf2
 have h3:(ltL p q b).length=(iI p q b).length:=lt_len.trans h1
 refine⟨h3,?_⟩
 rw[h1] at h2
 intro x hx
 refine h2 x λk hk=>?_
 rw[<-hx k hk]
 exact bM λl _=>by
  show Vm.get (q.M (atN (orL p b) (atN (ltI p q b) k))) _*_=Vm.get (q.M (atN (ltL p q b) k)) _*_
  rw[bJd oM]
theorem RpR.col (h:RpR p q b g) {j:Nat} (hj:j<p.c.l.length):(∃k,k<(iI p q b).length/\kpN p q b k=j/\g.c.l.getD j 0=2)\/(g.c.l.getD j 0=stC (p.c.l.getD j default) b.c.l j):=by
 by_cases hh:∃k,k<(iI p q b).length/\kpN p q b k=j
 ·obtain⟨k,hk,rfl⟩:=hh
  exact .inl ⟨k,hk,rfl,h.c2 k hk⟩
 exact .inr (h.c0 j hj λk hk e=>hh ⟨k,hk,e⟩)
theorem RpR.row (h:RpR p q b g) {i:Nat} (hi:i<p.r.l.length):(∃k,k<(ltL p q b).length/\atN (ltL p q b) k=i/\g.r.l.getD i 0=dfR (p.r.l.getD i default).s)\/(g.r.l.getD i 0=2):=by
 by_cases hh:∃k,k<(ltL p q b).length/\atN (ltL p q b) k=i
 ·obtain⟨k,hk,rfl⟩:=hh
  exact .inl ⟨k,hk,rfl,h.r0 k hk⟩
 exact .inr (h.r2 i hi λk hk e=>hh ⟨k,hk,e⟩)
theorem bSl {k:Nat} (hk:k<(iI p q b).length):kpN p q b k<p.c.l.length/\kpN p q b k<b.c.l.length/\b.c.l.getD (kpN p q b k) 0=2:=by
 have h1:=(aAw hk).2
 have h2:=(zG h1).2
 exact⟨bN h2.1 (wH _ _),bN h2.1 (Nat.min_le_right _ _),h2.2⟩
theorem RpR.ce (h:RpR p q b g):Enm (λj=>g.c.l.getD j 0=2) p.c.l.length (iI p q b).length (kpN p q b):=⟨λk hk=>(bSl hk).1,λk l hkl hl=>cDh.mono _ _ (yJ.mono k l hkl hl) (yJ.lt l hl),λk hk=>h.c2 k hk,λj hj h2=>by
 rcases h.col hj with ⟨k,hk,e,_⟩|h3
 ·exact⟨k,hk,e⟩
 exact absurd (h3.symm.trans h2) (cDf _ _ _)⟩
theorem RpR.val (h:RpR p q b g) {B:Nat} (hp:PrV p q B):BVal p q g:=by
 have ec:=(fL (P:=λj=>g.c.l.getD j 0=2) p.c.l.length).1
 have er:=(fL (P:=λi=>g.r.l.getD i 0≠2) p.r.l.length).1
 have hc:(iI p q b).length=(bcL g p.c.l.length).length:=h.ce.uniq ec
 have hat:=h.ce.at ec
 obtain⟨hl,hF⟩:=bSk (p:=p) (q:=q) (b:=b)
 have hex:∀k,k<(ltL p q b).length->∃k',k'<(brL g p.r.l.length).length/\atN (brL g p.r.l.length) k'=atN (ltL p q b) k:=λk hk=>er.all _ (aSl hk).2 (by rw[h.r0 k hk];exact cDe _)
 have hbr:(brL g p.r.l.length).length<=(ltL p q b).length:=aLd (f:=atN (ltL p q b)) (λi j hi hj=>er.inj hi hj) λi hi=>by
  rcases h.row (er.lt i hi) with ⟨k,hk,e,_⟩|h3
  ·exact⟨k,hk,e⟩
  exact absurd h3 (er.mem i hi)
 have hF2:Free (λk l=>Vm.get (q.M (atN (brL g p.r.l.length) k)) (kpN p q b l:Nat)) (brL g p.r.l.length).length (iI p q b).length:=λx hx=>hF x λk hk=>by
  obtain⟨k',hk',e⟩:=hex k oM
  have h3:cI (λj=>Vm.get (q.M (atN (brL g p.r.l.length) k')) (kpN p q b j:Nat)*x j) (iI p q b).length=0:=hx k' hk'
  rw[e] at h3
  exact h3
 have hn:(iI p q b).length=(brL g p.r.l.length).length:=by have:=hF2.le;omega
 refine⟨⟨h.cl,h.rl,λj hj=>?_,λi hi=>?_⟩,by omega,λ⟨x,⟨i,hi,hxi⟩,hk⟩=>hxi (hF2 x (λk hk'=>?_) i oM)⟩
 ·rcases h.col hj with ⟨k,hk,e,h2⟩|h3
  ·exact .inl h2
  rw[h3];exact cDg _ _ _
 ·rcases h.row hi with ⟨k,hk,e,h2⟩|h3
  ·exact .inr h2
  exact .inl h3
 rw[<-hk k hk',hn]
 unfold dtn
 refine bM λl hl=>?_
 show Vm.get (q.M (atN (brL g p.r.l.length) k)) (kpN p q b l:Nat)*x l=Vm.get (jI _ _ (q.M (atN (brL g p.r.l.length) k))) (l:Nat)*x l
 have hl2:l<(bcL g p.c.l.length).length:=by omega
 rw[sD (λk l hkl hl=>ec.mono k l hkl hl) (hp.v _ (er.lt k hk')).2.1 hl2,hat l oM]
end rep
abbrev smB (a b:BasM):BL:=[(45,0,a.C),(45,0,b.C)]
theorem aLg {a b:BasM}:scB 2 (smB a b):=aB rfl (aB rfl aY)
abbrev smG (v k:Nat):List (Nat×DV):=[(v,.c (iC k)),(2,.c (.p 0 0)),(3,.c (.p 1 0))]
abbrev aOk:FuncId:=21
theorem bSm:Ent Tryz.prog aOk:=aU func21 rfl kR
theorem cNn:Tryz.prog.funcs[aOk]? =some Tryz.f21:=func21
theorem bSn (a b:BasM) (h1:a.c.l.length<=4096) (h2:a.r.l.length<=4096):Ctr Tryz.prog aOk [] [.a a.C,.a b.C] [] (λ_:Unit=>⟨pC (a.c.l=b.c.l/\a.r.l=b.r.l),[],True⟩):=by
 refine aW gT bSm cNn rfl rfl rfl bL aS (aA gT mxd ⟨λh3=>aA gT mxd ?_,λh3=>aA gT mxd ?_⟩)
 ·replace h3:((a.c.l.length:Nat):Int)≠(b.c.l.length:Nat)\/((a.r.l.length:Nat):Int)≠(b.r.l.length:Nat):=h3
  exact⟨(),trivial,aM (ff λhh=>by rw[hh.1,hh.2] at h3;omega) rfl trivial⟩
 replace h3:¬(((a.c.l.length:Nat):Int)≠(b.c.l.length:Nat)\/((a.r.l.length:Nat):Int)≠(b.r.l.length:Nat)):=h3
 have hc:a.c.l.length=b.c.l.length:=by omega
 have hr:a.r.l.length=b.r.l.length:=by omega
 refine cG (λ_=>true) (λk:Nat=>smG 5 k) (λ_=>smB a b) (λ_=>[]) (λk=>k<=b.c.l.length/\∀i,i<k->a.c.l.getD i 0=b.c.l.getD i 0) (λk=>b.c.l.length-k) λhM=>⟨bH hM (chg:=λk:Nat=>smG 5 k) (bls:=λ_=>smB a b) (fls:=λ_=>[]) 0 ⟨aC _,λi hi=>absurd hi (aF _)⟩ rfl ⟨rfl,rfl⟩ trivial ⟨rfl,rfl,rfl⟩ bL aLg rfl,λk ⟨hk,hw⟩=>aA gT mxd ⟨λh4=>aA gT mxd ?_,λh4=>aA gT mxd ?_⟩⟩
 ·replace h4:(k:Int)<(a.c.l.length:Nat):=h4
  have hka:k<a.c.l.length:=by omega
  have hkb:k<b.c.l.length:=by omega
  refine⟨.seq [(0,false),(1,false),(2,false),(3,false),(4,false),(5,false),(6,false),(7,false),(8,false),(9,false),(10,false)],by kernel_rfl,k,⟨rfl,hka⟩,k,⟨rfl,hkb⟩,λh5=>aA gT mxd ?_,λh5=>aA gT mxd ?_⟩
  ·replace h5:a.c.l.getD k 0≠b.c.l.getD k 0:=h5
   exact⟨(),trivial,aM (ff λhh=>h5 (by rw[hh.1])) rfl trivial⟩
  replace h5:¬a.c.l.getD k 0≠b.c.l.getD k 0:=h5
  exact⟨(k+1:Nat),wi,bH hM (chg:=λk:Nat=>smG 5 k) (bls:=λ_=>smB a b) (fls:=λ_=>[]) (k+1) ⟨⟨hkb,λi hi=>by
   rcases cN (cX hi) with h|rfl
   ·exact hw i h
   exact eE.1 h5⟩,show b.c.l.length-(k+1)<b.c.l.length-k by omega⟩ rfl ⟨rfl,rfl⟩ trivial ⟨rfl,rfl,rfl⟩ bL aLg rfl⟩
 replace h4:¬(k:Int)<(a.c.l.length:Nat):=h4
 obtain rfl:k=b.c.l.length:=by omega
 have ec:a.c.l=b.c.l:=aFu hc hw
 refine aA gT mxd ?_
 show Sd _ _ _ _ _ _
 refine cG (λ_=>true) (λk:Nat=>smG 6 k) (λ_=>smB a b) (λ_=>[]) (λk=>k<=b.r.l.length/\∀i,i<k->a.r.l.getD i 0=b.r.l.getD i 0) (λk=>b.r.l.length-k) λhM=>⟨bH hM (chg:=λk:Nat=>smG 6 k) (bls:=λ_=>smB a b) (fls:=λ_=>[]) 0 ⟨aC _,λi hi=>absurd hi (aF _)⟩ rfl ⟨rfl,rfl⟩ trivial ⟨rfl,rfl,rfl⟩ bL aLg rfl,λk ⟨hk,hw⟩=>aA gT mxd ⟨λh4=>aA gT mxd ?_,λh4=>aA gT mxd ?_⟩⟩
 ·replace h4:(k:Int)<(a.r.l.length:Nat):=h4
  have hka:k<a.r.l.length:=by omega
  have hkb:k<b.r.l.length:=by omega
  refine⟨.seq [(0,false),(1,false),(2,false),(3,false),(4,false),(5,false),(6,false),(7,false),(8,false),(9,false),(10,false)],by kernel_rfl,k,⟨rfl,hka⟩,k,⟨rfl,hkb⟩,λh5=>aA gT mxd ?_,λh5=>aA gT mxd ?_⟩
  ·replace h5:a.r.l.getD k 0≠b.r.l.getD k 0:=h5
   exact⟨(),trivial,aM (ff λhh=>h5 (by rw[hh.2])) rfl trivial⟩
  replace h5:¬a.r.l.getD k 0≠b.r.l.getD k 0:=h5
  exact⟨(k+1:Nat),wi,bH hM (chg:=λk:Nat=>smG 6 k) (bls:=λ_=>smB a b) (fls:=λ_=>[]) (k+1) ⟨⟨hkb,λi hi=>by
   rcases cN (cX hi) with h|rfl
   ·exact hw i h
   exact eE.1 h5⟩,show b.r.l.length-(k+1)<b.r.l.length-k by omega⟩ rfl ⟨rfl,rfl⟩ trivial ⟨rfl,rfl,rfl⟩ bL aLg rfl⟩
 replace h4:¬(k:Int)<(a.r.l.length:Nat):=h4
 obtain rfl:k=b.r.l.length:=by omega
 exact aA gT mxd ⟨(),trivial,aM (tt ⟨ec,aFu hr hw⟩) rfl trivial⟩
end Go.Proofs.YtghncoghdcmdfaaGreat
