/- THE STATEMENT BasisComplementary of the program's law 13 is proved: for every input the law returns true; it has no conditions. Part 6 of 7: Qi Qj Qk Ql Qm Ba Bb Bc Bd Bn Be Bf Bg Bh Bi Bj Sz Bk Bl Bm Bo Bp. -/
import Derived.Test.YtghncoghdcmdfaaGreatD5
set_option maxHeartbeats 4000000
set_option linter.unusedVariables false
set_option linter.unusedSimpArgs false
namespace Go.Proofs.YtghncoghdcmdfaaGreat
open Go.Vg _root_.Go.Proofs.Tryz
open Go.Vm
open Go.Vy hiding val
set_option maxRecDepth 20000
abbrev obj (q:PrQ) (qs:List Rat) (k:Nat):Rat:=cG (λj=>q.k j*lQ qs j) k
abbrev obB (p:ProgM) (s:RatM):BL:=[(42,0,p.C),(62,0,uD),(62,0,s.C)]
theorem aSm {p:ProgM} {s:RatM}:scB 3 (obB p s):=aB rfl (aB rfl (aB rfl aZ))
def sqX (l:List Nat) (n:Nat):List (Nat×Bool):=(List.range n).map λi=>(i,l.contains i)
theorem PrX.ob {p:ProgM} {q:PrQ} {x:Sl RatM} {qs:List Rat} {B Bx:Nat} (h:PrX p q x qs B Bx) (hk:∀j,j<p.c.l.length->rb (q.k j) B) {k:Nat} (hkc:k<=p.c.l.length):rb (obj q qs k) 4398046511104:=by
 have h1:=h.v.h1
 have h2:=aDn (b:=B+Bx) oM (m:=k) λj hj=>fS (hk j oM) (h.q _ (gD0 (k:=j) (by rw[h.l];omega)))
 have h3:=h.b
 have h4:k*(B+Bx+1)<=p.c.l.length*(B+Bx+1):=aV _ hkc
 exact h2.le (by rw[dM] at h3;omega)
abbrev bPb (x:Sl RatM) (k:Nat):List (Nat×DV):=[(6,.c (iC k)),(2,.c (.p 0 0)),(5,.c (.p 2 0)),(4,.c (.p 1 0)),(1,.c (eY x))]
abbrev cBk:FuncId:=30
theorem cTe:Ent Tryz.prog cBk:=aU func30 rfl kR
theorem cTf:Tryz.prog.funcs[cBk]? =some Tryz.f30:=func30
theorem cMk (p:ProgM) (x:Sl RatM) {q:PrQ} {qs:List Rat} {B Bx:Nat} (h:PrX p q x qs B Bx) (hk:∀j,j<p.c.l.length->rb (q.k j) B):Ctr Tryz.prog cBk [] [.a p.C,.c (eY x)] [] (rE (obj q qs p.c.l.length)):=by
 have hxl:x.l.length=p.c.l.length:=h.x.ln.trans h.l
 have hc:=h.v.c
 have hBB:=h.v.hB
 have hbb:=h.b
 rw[dM] at hbb
 refine aX gT cTe cTf rfl rfl rfl bL aS (aA gT mxd ⟨[],aBk,rfl,rfl,rfl,λz hz=>?_⟩)
 show Sd _ _ _ _ _ _
 refine cE (λ_=>true) (λg:Nat×RatM=>bPb x g.1) (λg=>obB p g.2) (λ_=>[]) (λg=>g.1<=p.c.l.length/\Cr g.2 (obj q qs g.1)) (λg=>p.c.l.length-g.1) λhM=>⟨bF hM (chg:=λg:Nat×RatM=>bPb x g.1) (bls:=λg=>obB p g.2) (fls:=λ_=>[]) (0,z) ⟨aC _,hz⟩ rfl ⟨rfl,rfl,rfl⟩ trivial ⟨rfl,rfl,rfl,rfl,rfl⟩ bL aSm rfl,λ⟨k,s⟩ ⟨hkc,hs⟩=>aA gT mxd ⟨λh3=>aA gT mxd ?_,λh3=>aA gT mxd ?_⟩⟩
 all_goals
  replace hkc:k<=p.c.l.length:=hkc
  replace hs:Cr s (obj q qs k):=hs
 ·replace h3:(k:Int)<(p.c.l.length:Nat):=h3
  have hkn:k<p.c.l.length:=by omega
  have hkx:k<x.l.length:=by omega
  have hX:=(h.x.rq h.q (k:=k) (by rw[h.l];exact hkn)).le h.le
  have hxr:=h.q _ (gD0 (k:=k) (by rw[h.l];exact hkn))
  refine⟨k,⟨rfl,hkn⟩,[],vE (p.c.l.getD k default).k ((h.v.rd.c k hkn).k.le),rfl,rfl,rfl,λ_ _=>⟨λh4=>aA gT mxd ?_,λh4=>aA gT mxd ?_⟩⟩
  ·refine⟨.seq (sqX [12,13] 14),by kernel_rfl,k,⟨rfl,hkn⟩,k,⟨rfl,hkx⟩,[],aFo (p.c.l.getD k default).k (x.l.getD k default) ((h.v.rd.c k hkn).k.le) hX,rfl,rfl,rfl,λm hm=>⟨[],aBm s m (hs.rq (h.ob hk hkc)) (Cr.rq hm ((fS (hk k hkn) hxr).le oM)),rfl,rfl,rfl,λg hg=>⟨(k+1:Nat),wi,bF hM (chg:=λg:Nat×RatM=>bPb x g.1) (bls:=λg=>obB p g.2) (fls:=λ_=>[]) (k+1,g) ⟨⟨hkn,hg⟩,show p.c.l.length-(k+1)<p.c.l.length-k by omega⟩ rfl ⟨rfl,rfl,rfl⟩ trivial ⟨rfl,rfl,rfl,rfl,rfl⟩ bL aSm rfl⟩⟩⟩
  replace h4:¬sgn (q.k k).num≠0:=h4
  have h0:q.k k=0:=cX.1 (fJ.1 (dW.1 h4))
  refine⟨(k+1:Nat),wi,bF hM (chg:=λg:Nat×RatM=>bPb x g.1) (bls:=λg=>obB p g.2) (fls:=λ_=>[]) (k+1,s) ⟨⟨hkn,?_⟩,show p.c.l.length-(k+1)<p.c.l.length-k by omega⟩ rfl ⟨rfl,rfl,rfl⟩ trivial ⟨rfl,rfl,rfl,rfl,rfl⟩ bL aSm rfl⟩
  show Cr s (obj q qs k+q.k k*lQ qs k)
  rw[h0,dH,bJ];exact hs
 replace h3:¬(k:Int)<(p.c.l.length:Nat):=h3
 obtain rfl:k=p.c.l.length:=by omega
 exact aA gT mxd ⟨s,hs,aM rfl rfl trivial⟩
abbrev cBl:FuncId:=90
theorem cTg:Ent Tryz.prog cBl:=aU func90 rfl kR
theorem cTh:Tryz.prog.funcs[cBl]? =some Tryz.f90:=func90
theorem cMl (d:Sl Int) (p:Nat) (hd:d.l.length<=9223372036854775807) (hp:p<=d.l.length):Ctr Tryz.prog cBl [true] [.c (.p 0 0)] (tpB d p) (λg:RatM×Rat×Nat=>⟨.a g.1.C,tpB d g.2.2,((Cr g.1 g.2.1/\g.2.1≠0)/\rb g.2.1 1)/\g.2.2<=d.l.length⟩):=by
 have last:∀n s:Int,n≠0->-6<=n->n<=6->0<=s->s<3->Rat.divInt n (1+s)≠0/\rb (Rat.divInt n (1+s)) 1:=λn s h1 h2 h3 h4 h5=>⟨λh=>h1 (by
  have h6:=sA n (1+s)
  rw[h,show(1+s).sign=1 from oY oM,tC] at h6
  have h7:n=n/((1+s).gcd n:Int)*((1+s).gcd n:Int):=(Int.ediv_mul_cancel (Int.gcd_dvd_right ..)).symm
  rw[h7,<-h6];exact Int.zero_mul _),aNt oM oM⟩
 refine aX gT cTg cTh rfl rfl rfl bL (eT rfl) (aA gT mxd ⟨[0],nN d p 12 hd hp dC dC,rfl,rfl,rfl,λr hr=>⟨r.1-6,wi (h:=⟨rfl,by have:=hr.1;omega,by have:=hr.1;omega⟩),⟨λh1=>aA gT mxd ⟨r.1-6+1,wi (h:=⟨rfl,by have:=hr.1;omega,by have:=hr.1;omega⟩),?_⟩,λh1=>aA gT mxd ?_⟩⟩⟩)
 ·replace h1:0<=r.1-6:=h1
  refine⟨[0],nN d r.2 3 hd hr.2 dC dC,rfl,rfl,rfl,λs hs=>⟨1+s.1,wi (h:=⟨rfl,by have:=hs.1;omega,by have:=hs.1;omega⟩),[],bFo (by have:=hr.1;omega) (by have:=hs.1;omega),rfl,rfl,rfl,λg hg=>⟨(g,Rat.divInt (r.1-6+1) (1+s.1),s.2),⟨⟨⟨hg,?_⟩,?_⟩,hs.2⟩,fH rfl rfl bL (aB rfl aZ) rfl (eT rfl)⟩⟩⟩
  ·exact(last _ _ oM oM (by have:=hr.1;omega) hs.1.1 hs.1.2).1
  exact(last _ _ oM oM (by have:=hr.1;omega) hs.1.1 hs.1.2).2
 replace h1:¬0<=r.1-6:=h1
 refine⟨[0],nN d r.2 3 hd hr.2 dC dC,rfl,rfl,rfl,λs hs=>⟨1+s.1,wi (h:=⟨rfl,by have:=hs.1;omega,by have:=hs.1;omega⟩),[],bFo (by have:=hr.1;omega) (by have:=hs.1;omega),rfl,rfl,rfl,λg hg=>⟨(g,Rat.divInt (r.1-6) (1+s.1),s.2),⟨⟨⟨hg,?_⟩,?_⟩,hs.2⟩,fH rfl rfl bL (aB rfl aZ) rfl (eT rfl)⟩⟩⟩
 ·exact(last _ _ oM (by have:=hr.1;omega) oM hs.1.1 hs.1.2).1
 exact(last _ _ oM (by have:=hr.1;omega) oM hs.1.1 hs.1.2).2
theorem cMm (b:Bool):LeC (.v (.bool b)) (.b (b=true) inferInstance):=λρ n w x h=>by
 rw[h.inv_v]
 have h1:Rc (Zf ρ n w) w (.b (b=true) inferInstance) (.bool (decide (b=true))):=Rc.b _ _
 have h2:decide (b=true)=b:=by cases b<;>rfl
 rw[h2] at h1
 exact h1
abbrev LeL (l l':List CV):Prop:=∀(k:Nat) (c c':CV),l[k]? =some c->l'[k]? =some c'->LeC c c'
theorem LeL.refl (l:List CV):LeL l l:=λk c c' h1 h2=>by rw[h1] at h2;injection h2 with h2;subst h2;exact fD _
theorem LeL.cons {c c':CV} {l l':List CV} (h:LeC c c') (hl:LeL l l'):LeL (c::l) (c'::l')
 |0,a,a',h1,h2=>by injection h1 with h1;injection h2 with h2;subst h1 h2;exact h
 |k+1,a,a',h1,h2=>hl k a a' h1 h2
theorem aWe {P:Program} {nb N:Nat} {cd:Code} {K:Kt} {s:SS} (i:Nat) {T es:Nat} {l:List CV} (l':List CV) (hb:s.bl[i]? =some (T,es,l)) (hl:l'.length=l.length) (hc:LeL l l') (h:mV s.bl i (T,es,l') λbl'=>Sd P nb N cd K ⟨s.sl,s.gl,bl',s.fl⟩):Sd P nb N cd K s:=gG tSd i l' hb hl hc h
def bV:Bool->CV
 |true=> .v (.bool true)
 |false=> .b (false=true) inferInstance
theorem bSi (b:Bool):LeC (bV b) (.b (b=true) inferInstance):=by
 cases b with
 |true=>exact cMm true
 |false=>exact fD _
abbrev bIf (k:RatM) (b:Bool) (l:RatM) (c:Bool) (u:RatM):ColM:=⟨k,b=true,inferInstance,l,c=true,inferInstance,u⟩
abbrev bIg (k:RatM) (b:Bool) (l:RatM) (c:Bool) (u:RatM):List CV:=[.b k.n.p k.n.d,eK k.n.m,eK k.d,bV b,.b l.n.p l.n.d,eK l.n.m,eK l.d,bV c,.b u.n.p u.n.d,eK u.n.m,eK u.d]
abbrev cTi:List CV:=[.b (false=true) inferInstance,.v (.slice none 0 0),.v (.slice none 0 0),.b (false=true) inferInstance,.b (false=true) inferInstance,.v (.slice none 0 0),.v (.slice none 0 0),.b (false=true) inferInstance,.b (false=true) inferInstance,.v (.slice none 0 0),.v (.slice none 0 0)]
theorem bPc {k:RatM} {b:Bool} {l:RatM} {c:Bool} {u:RatM}:LeL (bIg k b l c u) (bIf k b l c u).C:=.cons (fD _) (.cons (fD _) (.cons (fD _) (.cons (bSi b) (.cons (fD _) (.cons (fD _) (.cons (fD _) (.cons (bSi c) (LeL.refl _))))))))
abbrev tcB (d:Sl Int) (q:Nat) (l:List CV):BL:=[(98,0,[cI d,iC q]),(106,0,cTi),(106,0,l)]
theorem bPd {g:RatM}:LeL ([.b g.n.p g.n.d,eK g.n.m,eK g.d,.b (false=true) inferInstance,.b (false=true) inferInstance,.v (.slice none 0 0),.v (.slice none 0 0),.b (false=true) inferInstance,.b (false=true) inferInstance,.v (.slice none 0 0),.v (.slice none 0 0)]) (bIg g false default false default):=.cons (fD _) (.cons (fD _) (.cons (fD _) (.cons (fD _) (.cons (fD _) (.cons qC (.cons qC (.cons (fD _) (.cons (fD _) (.cons qC (.cons qC (LeL.refl _)))))))))))
theorem bIh {n:Int} (h0:0<=n) (h:n<=1000):rb (n:Rat) 1:=⟨by rw[Rat.num_intCast];exact aJ (fW (show n.natAbs<=1000 by omega)) dC,by rw[Rat.den_intCast];decide⟩
theorem CtrF.ld {P:Program} {q:FuncId} {cl:List Bool} {al:List DV} {bl:BL} {fl:List Fam} {σ τ:Type} {R:σ->OutF} {R':τ->OutF} (h:CtrF P q cl al bl fl R) (hp:∀g,(R g).C->∃g',(R' g').C/\(∀ρ n w v,Hd ρ n w (R g).d v->Hd ρ n w (R' g').d v)/\(R' g').bl=(R g).bl/\(R' g').fl=(R g).fl):CtrF P q cl al bl fl R':=
 ⟨h.ent,h.clb,λρ w vals hv hD hF=>(h.run ρ w vals hv hD hF).mono λe w' ⟨v,he,g,ρ',hC,hDr,hdv,hclr,hFr⟩=>by
  obtain⟨g',h1,h2,h3,h4⟩:=hp g hC
  exact⟨v,he,g',ρ',h1,by rw[h3];exact hDr,by rw[h3];exact h2 _ _ _ _ hdv,by rw[h3];exact hclr,by rw[h4];exact hFr⟩⟩
theorem LeL.hd {l l':List CV} (h:LeL l l') (hl:l'.length=l.length) {ρ:Pl} {n:Nat} {w:World} {v:Value} (hv:Hd ρ n w (.a l) v):Hd ρ n w (.a l') v:=by
 cases hv with
 |a hv=>exact .a (hv.le hl h)
structure ColV where
 k:RatM
 pl:Bool
 l:RatM
 pu:Bool
 u:RatM
 kq:Rat
 lq:Rat
 uq:Rat
 p:Nat
abbrev ColV.W (g:ColV):List CV:=bIg g.k g.pl g.l g.pu g.u
abbrev ColV.M (g:ColV):ColM:=bIf g.k g.pl g.l g.pu g.u
structure ColVR (d:Sl Int) (g:ColV):Prop where
 r:ColR g.M g.kq g.lq g.uq 3
 x:¬Crs g.M g.lq g.uq
 k:rb g.kq 3
 l:rb g.lq 3
 u:rb g.uq 3
 p:g.p<=d.l.length
 kc:Cr g.k g.kq
abbrev aWf:FuncId:=123
theorem cMn:Ent Tryz.prog aWf:=aU func123 rfl kR
theorem cMo:Tryz.prog.funcs[aWf]? =some Tryz.f123:=func123
theorem cBm (d:Sl Int) (p:Nat) (hd:d.l.length<=9223372036854775807) (hp:p<=d.l.length):Ctr Tryz.prog aWf [true] [.c (.p 0 0)] (tpB d p) (λg:ColV=>⟨.a g.W,tpB d g.p,ColVR d g⟩):=by
 have z1:rb (0:Rat) 1:=⟨by decide,by decide⟩
 have z3:rb (0:Rat) 3:=z1.le dC
 refine aX gT cMn cMo rfl rfl rfl bL (eT rfl) (Sd.sq (aA gT mxd (Sd.sq (aA gT mxd ⟨[0],aRj d p hd hp,rfl,rfl,rfl,λg1 ⟨⟨hg,hgb⟩,hp1⟩=>aWe 2 (bIg g1.1 false default false default) rfl rfl bPd (aA gT mxd ⟨[0],nN d g1.2.2 6 hd hp1 dC dC,rfl,rfl,rfl,λk ⟨hk,hp2⟩=>?_⟩)⟩))))
 have fin:∀(l:RatM) (lq:Rat) (u:RatM) (uq:Rat) (b c:Bool) (q:Nat),Rq l lq 3->Rq u uq 3->rb lq 3->rb uq 3->(c=true->lq<=uq)->q<=d.l.length->ColVR d ⟨g1.1,b,l,c,u,g1.2.1,lq,uq,q⟩:=λl lq u uq b c q hl hu bl bu hlu hq=>
  ⟨⟨Cr.rq hg (hgb.le dC),hl,hu⟩,λ⟨⟨_,hc⟩,hlt⟩=>absurd hlt (by have:=hlu hc;grind),hgb.le dC,bl,bu,hq,hg⟩
 refine vjn (λ_=>true) (λ_:Bool×RatM×Rat×Nat=>[(4,.c (iC k.1)),(0,.c (.p 0 0)),(2,.c (.p 1 0)),(3,.c (.p 2 0))]) (λx=>tcB d x.2.2.2 (bIg g1.1 x.1 x.2.1 false default)) (λx=>Rq x.2.1 x.2.2.1 1/\rb x.2.2.1 1/\x.2.2.2<=d.l.length) ?_
 refine⟨⟨λh1=>aA gT mxd ⟨λh2=>aA gT mxd ⟨[0],aRj d k.2 hd hp2,rfl,rfl,rfl,λg2 ⟨⟨hg2,hb2⟩,hp3⟩=>⟨(true,g2.1,g2.2.1,g2.2.2),⟨Cr.rq hg2 hb2,hb2,hp3⟩,rfl,rfl,rfl,rfl,rfl,rfl⟩⟩,λh2=>aA gT mxd ⟨(true,default,0,k.2),⟨vG,z1,hp2⟩,rfl,rfl,rfl,rfl,rfl,rfl⟩⟩,λh1=>aA gT mxd ⟨(false,default,0,k.2),⟨vG,z1,hp2⟩,rfl,rfl,rfl,rfl,rfl,rfl⟩⟩,λ⟨b,l,lq,q⟩ ⟨hl,bl,hq⟩=>?_⟩
 have hb3:∀r:Int,0<=r/\r<5->rb (lq+(r:Rat)) 3:=λr hr=>(vI bl (bIh hr.1 oM)).le dC
 have hf3:∀(r:Int) (u:RatM) (b:Bool) (q:Nat),0<=r/\r<5->Cr u (lq+(r:Rat))->q<=d.l.length->ColVR d ⟨g1.1,b,l,true,u,g1.2.1,lq,lq+(r:Rat),q⟩:=λr u b q hr hu hq=>fin _ _ _ _ _ _ _ (hl.le dC) (Cr.rq hu (hb3 r hr)) (bl.le dC) (hb3 r hr) (λ_=>by
  have:(0:Rat)<=(r:Rat):=by exact_mod_cast hr.1
  grind) hq
 cases b
 all_goals
  exact⟨λh3=>aA gT mxd ⟨.treeX [] [2000,1,2002,2006] (trS [3,4,5,1007,2008,1009]),by kernel_rfl,[0],nN d q 5 hd hq dC dC,rfl,rfl,rfl,λr ⟨hr,hp3⟩=>⟨rfl,[],sU (z:=r.1) oM,rfl,rfl,rfl,λf hf=>⟨rfl,[],aBm l f (hl.le dC) (Cr.rq hf ((bIh hr.1 oM).le dC)),rfl,rfl,rfl,λu hu=>⟨rfl,⟨g1.1,_,l,true,u,g1.2.1,lq,lq+(r.1:Rat),r.2⟩,hf3 r.1 u _ r.2 hr hu hp3,fH rfl rfl bL (aB rfl aZ) rfl (eT rfl)⟩⟩⟩⟩,λh3=>aA gT mxd ⟨⟨g1.1,_,l,false,default,g1.2.1,lq,0,q⟩,fin _ _ _ _ _ _ _ (hl.le dC) vG (bl.le dC) z3 (λh=>by cases h) hq,fH rfl rfl bL (aB rfl aZ) rfl (eT rfl)⟩⟩
theorem cBn (d:Sl Int) (p:Nat) (hd:d.l.length<=9223372036854775807) (hp:p<=d.l.length):Ctr Tryz.prog aWf [true] [.c (.p 0 0)] (tpB d p) (λg:ColV=>⟨.a g.M.C,tpB d g.p,ColVR d g⟩):=CtrF.ld (cBm d p hd hp) λg hg=>⟨g,hg,λ_ _ _ _ h=>LeL.hd bPc rfl h,rfl,rfl⟩
theorem vP {P:Program} {nb N:Nat} {cd:Code} {K:Kt} {s:SS} (i k T es:Nat) {T0 e0:Nat} {l:List CV} (hb:s.bl[i]? =some (T0,e0,l)) (hk:l[k]? =some (.v (.slice none 0 0))) (hes:0<es) (hgl:s.gl=[]) (h:mV s.bl i (T0,e0,l.set k (.s (cnt s.bl 0) 0)) λb1=>qU b1 (T,es,[]) λbl'=>Sd P nb N cd K ⟨s.sl,[],bl',s.fl⟩):Sd P nb N cd K s:=bRh tSd i k T es hb hk hes hgl h
theorem VOk.le {es:List En} {a b:Int} (h:VOk es a) (hab:a<=b):VOk es b:=⟨h.1,λe he=>⟨(h.2 e he).1,Int.lt_of_lt_of_le (h.2 e he).2.1 hab,(h.2 e he).2.2⟩⟩
theorem VOk.snoc {es:List En} {k:Nat} {q:Rat} (h:VOk es (k:Nat)) (hq:q≠0):VOk (es++[((k:Int),q)]) ((k+1:Nat):Int):=⟨eQ.2 ⟨h.1,eJ _ _,λe he x hx=>by rw[aE.1 hx];exact(h.2 e he).2.1⟩,λe he=>by
 rcases aR.1 he with he|he
 ·have:=h.2 e he
  exact⟨this.1,by omega,this.2.2⟩
 rw[aE.1 he];exact⟨by show(0:Int)<=(k:Nat);omega,by show(k:Int)<_;omega,hq⟩⟩
structure RwS (r:RowM) (b:Rat) (es:List En) (n:Nat):Prop where
 rd:RowR r b es 1
 s:Sns r.s
 v:VOk es (n:Nat)
 bc:Cr r.b b
 b:rb b 1
 e:rbE es 1
 ln:es.length<=n
abbrev cTj:List CV:=[iC 0,.b (false=true) inferInstance,.v (.slice none 0 0),.v (.slice none 0 0),.v (.slice none 0 0)]
abbrev bIi (d:Sl Int) (q:Nat) (s:Int) (b:RatM) (L:List EntM):BL:=[(98,0,[cI d,iC q]),(67,0,cTj),(67,0,[iC s,.b b.n.p b.n.d,eK b.n.m,eK b.d,.s 3 L.length]),(82,4,ecs L)]
theorem aKv {d:Sl Int} {q:Nat} {s:Int} {b:RatM} {L:List EntM}:scB 4 (bIi d q s b L):=aB rfl (aB rfl (aB rfl (aB (bU (gN L)) aZ)))
abbrev bPe (n k:Nat):List (Nat×DV):=[(6,.c (iC k)),(0,.c (.p 0 0)),(1,.c (iC n)),(4,.c (.p 1 0)),(5,.c (.p 2 0))]
theorem cMp {T:Nat} {A:Option Nat} {a:Nat} {L:List EntM}:FrC ⟨T,4,1,λ_=>A,λ_=>a,λ_=>ecs L⟩ (.h A L.length a) (cC ⟨A.map λb=>⟨b,0,none⟩,a,L⟩):=⟨0,L.length,_,bL,rfl,rfl,(gM _).symm,λk hk=>rU L k hk⟩
abbrev bIj:FuncId:=36
theorem cMq:Ent Tryz.prog bIj:=aU func36 rfl kR
theorem cMr:Tryz.prog.funcs[bIj]? =some Tryz.f36:=func36
theorem cBo (d:Sl Int) (p n:Nat) (hd:d.l.length<=9223372036854775807) (hp:p<=d.l.length) (hn:n<=1000):Ctr Tryz.prog bIj [true] [.c (.p 0 0),.c (iC n)] (tpB d p) (λg:RowM×(Rat×List En)×Nat=>⟨.a g.1.C,tpB d g.2.2,RwS g.1 g.2.1.1 g.2.1.2 n/\g.2.2<=d.l.length⟩):=by
 refine aX gT cMq cMr rfl rfl rfl bL (eT rfl) (Sd.sq (aA gT mxd (Sd.sq (aA gT mxd ⟨[0],nN d p 3 hd hp dC dC,rfl,rfl,rfl,λs ⟨hs,hp1⟩=>⟨s.1-1,wi (h:=⟨rfl,by omega,by omega⟩),[0],aRj d s.2 hd hp1,rfl,rfl,rfl,λg1 ⟨⟨hg,hgb⟩,hp2⟩=>vP 2 4 82 4 rfl rfl bL rfl (aA gT mxd ?_)⟩⟩))))
 refine cE (λ_=>true) (λg:Nat×List EntM×List En×Nat=>bPe n g.1) (λg=>bIi d g.2.2.2 (s.1-1) g1.1 g.2.1) (λ_=>[]) (λg=>(g.1<=n/\Ek g.2.1 g.2.2.1)/\(VOk g.2.2.1 (g.1:Nat)/\rbE g.2.2.1 1/\g.2.2.1.length<=g.1)/\g.2.2.2<=d.l.length) (λg=>n-g.1) λhM=>⟨bF hM (chg:=λg:Nat×List EntM×List En×Nat=>bPe n g.1) (bls:=λg=>bIi d g.2.2.2 (s.1-1) g1.1 g.2.1) (fls:=λ_=>[]) (0,[],[],g1.2.2) ⟨⟨aC _,⟨rfl,λk hk=>absurd hk (aD _)⟩⟩,⟨⟨List.Pairwise.nil,λe he=>(by cases he)⟩,λe he=>(by cases he),aI _⟩,hp2⟩ rfl ⟨rfl,rfl,rfl,rfl⟩ trivial ⟨rfl,rfl,rfl,rfl,rfl⟩ bL aKv rfl,λ⟨k,L,es,q⟩ ⟨⟨hk,hL⟩,⟨hv,hb,hl⟩,hq⟩=>aA gT mxd ⟨λh1=>aA gT mxd ?_,λh1=>aA gT mxd ?_⟩⟩
 all_goals
  replace hk:k<=n:=hk
  replace hL:Ek L es:=hL
  replace hv:VOk es (k:Nat):=hv
  replace hb:rbE es 1:=hb
  replace hl:es.length<=k:=hl
  replace hq:q<=d.l.length:=hq
  have hLl:=hL.ln
 ·have hkn:k<n:=by replace h1:(k:Int)<(n:Nat):=h1;omega
  refine⟨[0],nN d q 3 hd hq dC dC,rfl,rfl,rfl,λr ⟨hr,hr2⟩=>⟨λh2=>aA gT mxd ⟨.treeX [] [2000,1,2002,2003] (trS [4,2005,6,1007,2008,1009]),by kernel_rfl,[0],cMl d r.2 hd hr2,rfl,rfl,rfl,λg2 ⟨⟨⟨hg2,hz2⟩,hb2⟩,hp3⟩=>⟨rfl,rfl,⟨rfl,(by rw[gM]),by show L.length+1<=maxLen;simp only[maxLen];omega,by show(L.length+1)*64<=_;omega,λc hc=>(aR.1 hc).elim (λh=>dB (gN L c h)) (mH ⟨k,g2.1⟩ c)⟩,mH ⟨k,g2.1⟩,(k+1:Nat),wi,bF hM (chg:=λg:Nat×List EntM×List En×Nat=>bPe n g.1) (bls:=λg=>bIi d g.2.2.2 (s.1-1) g1.1 g.2.1) (fls:=λ_=>[]) (k+1,L++[⟨k,g2.1⟩],es++[((k:Int),g2.2.1)],g2.2.2) ⟨⟨⟨hkn,vH hL hg2⟩,⟨hv.snoc hz2,?_,by show(es++[_]).length<=k+1;simp;omega⟩,hp3⟩,show n-(k+1)<n-k by omega⟩ rfl ⟨rfl,rfl,?_,?_⟩ trivial ⟨rfl,rfl,rfl,rfl,rfl⟩ bL aKv rfl⟩⟩,λh2=>aA gT mxd ⟨(k+1:Nat),wi,bF hM (chg:=λg:Nat×List EntM×List En×Nat=>bPe n g.1) (bls:=λg=>bIi d g.2.2.2 (s.1-1) g1.1 g.2.1) (fls:=λ_=>[]) (k+1,L,es,r.2) ⟨⟨⟨hkn,hL⟩,⟨hv.le oM,hb,Nat.le_succ_of_le hl⟩,hr2⟩,show n-(k+1)<n-k by omega⟩ rfl ⟨rfl,rfl,rfl,rfl⟩ trivial ⟨rfl,rfl,rfl,rfl,rfl⟩ bL aKv rfl⟩⟩⟩
  ·intro e he
   rcases aR.1 he with he|he
   ·exact hb e he
   rw[aE.1 he];exact hb2
  ·show(_,_,[_,_,_,_,CV.s 3 (L.length+1)])=(_,_,[_,_,_,_,CV.s 3 (L++[_]).length])
   rw[aF];rfl
  show(_,_,_)=(_,_,_)
  rw[<-qB];rfl
 have hkn:k=n:=by replace h1:¬(k:Int)<(n:Nat):=h1;omega
 subst hkn
 show Sd _ _ _ _ _ _
 refine kU tSd 3 rfl bL (gN L) bL rfl λA a=>jQ tSd 2 0 [iC (s.1-1),.b g1.1.n.p g1.1.n.d,eK g1.1.n.m,eK g1.1.d,cC ⟨A.map λb=>⟨b,0,none⟩,a,L⟩] rfl rfl rfl rfl (qW (k0:=4) rfl cMp) ?_
 exact aA gT mxd ⟨(⟨s.1-1,g1.1,⟨A.map λb=>⟨b,0,none⟩,a,L⟩⟩,(g1.2.1,es),q),⟨⟨⟨Cr.rq hg hgb,hL.ev hb⟩,by unfold Sns;show s.1-1=-1\/s.1-1=0\/s.1-1=1;omega,hv,hg,hgb,hb,hl⟩,hq⟩,fH rfl rfl bL (aB rfl aZ) rfl (eT rfl)⟩
theorem kE {l:List CV} (h:l.all fM=true):∀x∈l,fM x=true:=aW.1 h
theorem rW (c:ColM):∀x∈c.C,fM x=true:=kE rfl
theorem rO (r:RowM):∀x∈r.C,fM x=true:=kE rfl
structure ClS (c:ColM) (k l u:Rat):Prop where
 r:ColR c k l u 3
 x:¬Crs c l u
 kc:Cr c.k k
 k:rb k 3
 l:rb l 3
 u:rb u 3
def bIk (C:List ColM):Prop:=∀c∈C,∃k l u,ClS c k l u
def bPf (R:List RowM) (n:Nat):Prop:=∀r∈R,∃b es,RwS r b es n
abbrev aSn (d:Sl Int) (q:Nat) (C:List ColM) (R:List RowM):BL:=[(98,0,[cI d,iC q]),(42,0,[.v (.slice none 0 0),.v (.slice none 0 0)]),(42,0,[.s 3 C.length,.s 4 R.length]),(106,11,fl ColM.C default C),(67,5,fl RowM.C default R)]
theorem aDo {d:Sl Int} {q:Nat} {C:List ColM} {R:List RowM}:scB 5 (aSn d q C R):=aB rfl (aB rfl (aB rfl (aB (bU (wE rW)) (aB (bU (wE rO)) aZ))))
abbrev cBp (b:Nat) (k:Int):List (Nat×DV):=[(8,.c (iC k)),(0,.c (.p 0 0)),(2,.c (iC b)),(6,.c (.p 1 0)),(7,.c (.p 2 0))]
abbrev cBq (k:Int):List (Nat×DV):=[(9,.c (iC k)),(0,.c (.p 0 0)),(6,.c (.p 1 0)),(7,.c (.p 2 0))]
theorem bPg {α:Type} {f:α->List CV} {dd:α} {e T:Nat} {A:Option Nat} {a:Nat} {L:List α} (he:∀x,(f x).length=e) (h0:0<e):FrC ⟨T,e,1,λ_=>A,λ_=>a,λ_=>fl f dd L⟩ (.h A L.length a) ((⟨A.map λb=>⟨b,0,none⟩,a,L⟩:Sl α).R e f dd):=⟨0,L.length,_,bL,rfl,rfl,(aBr he).symm,λk hk=>bFm he k hk⟩
abbrev bIl:FuncId:=51
theorem cMs:Ent Tryz.prog bIl:=aU func51 rfl kR
theorem cMt:Tryz.prog.funcs[bIl]? =some Tryz.f51:=func51
theorem cBr (d:Sl Int) (p a b:Nat) (hd:d.l.length<=9223372036854775807) (hp:p<=d.l.length) (ha:0<a) (ha2:a<=1000) (hb:b<=1000):Ctr Tryz.prog bIl [true] [.c (.p 0 0),.c (iC a),.c (iC b)] (tpB d p) (λg:ProgM×Nat=>⟨.a g.1.C,tpB d g.2,((1<=g.1.c.l.length/\g.1.c.l.length<=a/\g.1.r.l.length<=b)/\bIk g.1.c.l/\bPf g.1.r.l g.1.c.l.length)/\g.2<=d.l.length⟩):=by
 refine aX gT cMs cMt rfl rfl rfl bL (eT rfl) (Sd.sq (aA gT mxd (Sd.sq (aA gT mxd (vP 2 0 106 11 rfl rfl bL rfl (vP 2 1 67 5 rfl rfl bL rfl (aA gT mxd ⟨[0],nN d p a hd hp oM oM,rfl,rfl,rfl,λs ⟨hs,hp1⟩=>⟨1+s.1,wi (h:=⟨rfl,by omega,by omega⟩),?_⟩⟩)))))))
 refine cE (λ_=>true) (λg:List ColM×Nat=>cBp b (1+s.1-(g.1.length:Nat))) (λg=>aSn d g.2 g.1 []) (λ_=>[]) (λg=>((g.1.length:Nat)<=1+s.1/\bIk g.1)/\g.2<=d.l.length) (λg=>(1+s.1-(g.1.length:Nat)).toNat) λhM=>⟨bF hM (chg:=λg:List ColM×Nat=>cBp b (1+s.1-(g.1.length:Nat))) (bls:=λg=>aSn d g.2 g.1 []) (fls:=λ_=>[]) ([],s.2) ⟨⟨by show(0:Int)<=1+s.1;omega,λc hc=>(by cases hc)⟩,hp1⟩ rfl ⟨rfl,rfl,rfl,rfl,rfl⟩ trivial ⟨?_,rfl,rfl,rfl,rfl⟩ bL aDo rfl,λ⟨C,q⟩ ⟨⟨hk,hC⟩,hq⟩=>aA gT mxd ⟨λh1=>aA gT mxd ?_,λh1=>aA gT mxd ?_⟩⟩
 ·show(1+s.1:Int)=1+s.1-((0:Nat):Int);omega
 all_goals
  replace hk:((C.length:Nat):Int)<=1+s.1:=hk
  replace hC:bIk C:=hC
  replace hq:q<=d.l.length:=hq
 ·replace h1:(0:Int)<1+s.1-(C.length:Nat):=h1
  refine⟨.treeX [] [2000,1,2002] (trS [3,4,1005,2006,1007]),by kernel_rfl,[0],cBn d q hd hq,rfl,rfl,rfl,λg hg=>⟨rfl,rfl,⟨rfl,(aBr (f:=ColM.C) (d:=default) (L:=C) (e:=11) λ_=>rfl).symm,by show C.length+1<=maxLen;simp only[maxLen];omega,by show(C.length+1)*184<=_;omega,λc hc=>(aR.1 hc).elim (λh=>dB (wE rW c h)) λh=>dB (rW g.M c h)⟩,λc hc=>dB (wE rO c hc),λc hc=>dB (rW g.M c hc),1+s.1-(C.length:Nat)-1,wi (h:=⟨rfl,by omega,by omega⟩),bF hM (chg:=λg:List ColM×Nat=>cBp b (1+s.1-(g.1.length:Nat))) (bls:=λg=>aSn d g.2 g.1 []) (fls:=λ_=>[]) (C++[g.M],g.p) ⟨⟨⟨?_,?_⟩,hg.p⟩,?_⟩ rfl ⟨rfl,rfl,?_,?_,rfl⟩ trivial ⟨?_,rfl,rfl,rfl,rfl⟩ bL aDo rfl⟩⟩
  ·show(((C++[g.M]).length:Nat):Int)<=_
   simp;omega
  ·intro c hc
   rcases aR.1 hc with hc|hc
   ·exact hC c hc
   rw[aE.1 hc];exact⟨_,_,_,hg.r,hg.x,hg.kc,hg.k,hg.l,hg.u⟩
  ·show(1+s.1-(((C++[g.M]).length:Nat):Int)).toNat<(1+s.1-((C.length:Nat):Int)).toNat
   simp;omega
  ·show(_,_,[CV.s 3 (C.length+1),_])=(_,_,[CV.s 3 (C++[_]).length,_])
   rw[aF];rfl
  ·show(_,_,_)=(_,_,_)
   rw[<-aVg];rfl
  show 1+s.1-((C.length:Nat):Int)-1=1+s.1-(((C++[g.M]).length:Nat):Int)
  simp;omega
 replace h1:¬(0:Int)<1+s.1-(C.length:Nat):=h1
 have hCl:((C.length:Nat):Int)=1+s.1:=by omega
 refine aA gT mxd ⟨(b:Int)+1,wi (h:=⟨rfl,by omega,by omega⟩),[0],nN d q ((b:Int)+1) hd hq oM oM,rfl,rfl,rfl,λt ⟨ht,hq1⟩=>?_⟩
 refine cE (λ_=>true) (λg:List RowM×Nat=>cBq (t.1-(g.1.length:Nat))) (λg=>aSn d g.2 C g.1) (λ_=>[]) (λg=>((g.1.length:Nat)<=t.1/\bPf g.1 C.length)/\g.2<=d.l.length) (λg=>(t.1-(g.1.length:Nat)).toNat) λhM=>⟨bF hM (chg:=λg:List RowM×Nat=>cBq (t.1-(g.1.length:Nat))) (bls:=λg=>aSn d g.2 C g.1) (fls:=λ_=>[]) ([],t.2) ⟨⟨by show(0:Int)<=t.1;omega,λc hc=>(by cases hc)⟩,hq1⟩ rfl ⟨rfl,rfl,rfl,rfl,rfl⟩ trivial ⟨?_,rfl,rfl,rfl⟩ bL aDo rfl,λ⟨R,q⟩ ⟨⟨hk,hR⟩,hq⟩=>aA gT mxd ⟨λh1=>aA gT mxd ?_,λh1=>aA gT mxd ?_⟩⟩
 ·show t.1=t.1-((0:Nat):Int);omega
 all_goals
  replace hk:((R.length:Nat):Int)<=t.1:=hk
  replace hR:bPf R C.length:=hR
  replace hq:q<=d.l.length:=hq
 ·replace h1:(0:Int)<t.1-(R.length:Nat):=h1
  refine⟨.treeX [] [2000,1,2002,2003,4,2005] (trS [6,7,1008,2009,1010]),by kernel_rfl,[0],cBo d q C.length hd hq oM,rfl,rfl,rfl,λg ⟨hg,hq2⟩=>⟨rfl,rfl,⟨rfl,(aBr (f:=RowM.C) (d:=default) (L:=R) (e:=5) λ_=>rfl).symm,by show R.length+1<=maxLen;simp only[maxLen];omega,by show(R.length+1)*88<=_;omega,λc hc=>(aR.1 hc).elim (λh=>dB (wE rO c h)) λh=>dB (rO g.1 c h)⟩,λc hc=>dB (wE rW c hc),λc hc=>dB (rO g.1 c hc),t.1-(R.length:Nat)-1,wi (h:=⟨rfl,by omega,by omega⟩),bF hM (chg:=λg:List RowM×Nat=>cBq (t.1-(g.1.length:Nat))) (bls:=λg=>aSn d g.2 C g.1) (fls:=λ_=>[]) (R++[g.1],g.2.2) ⟨⟨⟨?_,?_⟩,hq2⟩,?_⟩ rfl ⟨rfl,rfl,?_,rfl,?_⟩ trivial ⟨?_,rfl,rfl,rfl⟩ bL aDo rfl⟩⟩
  ·show(((R++[g.1]).length:Nat):Int)<=_
   simp;omega
  ·intro c hc
   rcases aR.1 hc with hc|hc
   ·exact hR c hc
   rw[aE.1 hc];exact⟨_,_,hg⟩
  ·show(t.1-(((R++[g.1]).length:Nat):Int)).toNat<(t.1-((R.length:Nat):Int)).toNat
   simp;omega
  ·show(_,_,[_,CV.s 4 (R.length+1)])=(_,_,[_,CV.s 4 (R++[_]).length])
   rw[aF];rfl
  ·show(_,_,_)=(_,_,_)
   rw[<-aVg];rfl
  show t.1-((R.length:Nat):Int)-1=t.1-(((R++[g.1]).length:Nat):Int)
  simp;omega
 show Sd _ _ _ _ _ _
 refine kU tSd 4 rfl bL (wE rO) bL rfl λA a1=>⟨_,mA kB (wE rW),jQ tSd 2 0 [.s 3 C.length,aKt ⟨A.map λb=>⟨b,0,none⟩,a1,R⟩] rfl rfl rfl rfl (qW (k0:=1) rfl (bPg (λ_=>rfl) bL)) ?_⟩
 refine kU tSd 3 rfl bL (wE rW) bL rfl λA2 a2=>⟨_,rfl,jQ tSd 2 1 [aAs ⟨A2.map λb=>⟨b,0,none⟩,a2,C⟩,aKt ⟨A.map λb=>⟨b,0,none⟩,a1,R⟩] rfl rfl rfl rfl (qW (k0:=0) rfl (bPg (λ_=>rfl) bL)) ?_⟩
 exact aA gT mxd ⟨(⟨⟨A2.map λb=>⟨b,0,none⟩,a2,C⟩,⟨A.map λb=>⟨b,0,none⟩,a1,R⟩⟩,q),⟨⟨⟨by show 1<=C.length;omega,by show C.length<=a;omega,by show R.length<=b;omega⟩,hC,hR⟩,hq⟩,fH rfl rfl bL (aB rfl aZ) rfl (eT rfl)⟩
abbrev bIm:FuncId:=15
theorem cMu:Ent Tryz.prog bIm:=aU func15 rfl kR
theorem cMv:Tryz.prog.funcs[bIm]? =some Tryz.f15:=func15
theorem cBs (d:Sl Int) (hd:d.l.length<=9223372036854775807):Ctr Tryz.prog bIm [] [.c (cI d)] [] (λg:ProgM=>⟨.a g.C,[],((1<=g.c.l.length/\g.c.l.length<=4/\g.r.l.length<=4)/\bIk g.c.l/\bPf g.r.l g.c.l.length)⟩):=
 aX gT cMu cMv rfl rfl rfl bL aS (aA gT mxd ⟨[],aRh d,rfl,rfl,rfl,λ_ _=>⟨[1],cBr d 0 4 4 hd (aC _) dC dC dC,rfl,rfl,rfl,λg hg=>⟨g.1,hg.1,aM rfl rfl trivial⟩⟩⟩)
structure BasM where
 c:Sl Int
 r:Sl Int
def BasM.C (b:BasM):List CV:=[cI b.c,cI b.r]
abbrev aSo (d:Sl Int) (p:ProgM) (q:Nat) (C R:List Int):BL:=[(98,0,[cI d,iC q]),(42,0,p.C),(45,0,[.v (.slice none 0 0),.v (.slice none 0 0)]),(45,0,[.s 4 C.length,.s 5 R.length]),(3,1,C.map iC),(3,1,R.map iC)]
theorem aDp {d:Sl Int} {p:ProgM} {q:Nat} {C R:List Int}:scB 6 (aSo d p q C R):=aB rfl (aB rfl (aB rfl (aB rfl (aB (bU (bR _)) (aB (bU (bR _)) aZ)))))
abbrev cBt (k:Nat):List (Nat×DV):=[(6,.c (iC k)),(0,.c (.p 0 0)),(3,.c (.p 1 0)),(4,.c (.p 2 0)),(5,.c (.p 3 0))]
abbrev cBu (k:Nat):List (Nat×DV):=[(7,.c (iC k)),(0,.c (.p 0 0)),(3,.c (.p 1 0)),(4,.c (.p 2 0)),(5,.c (.p 3 0))]
theorem aGh {T:Nat} {A:Option Nat} {a:Nat} {L:List Int}:FrC ⟨T,1,1,λ_=>A,λ_=>a,λ_=>L.map iC⟩ (.h A L.length a) (cI ⟨A.map λb=>⟨b,0,none⟩,a,L⟩):=⟨0,L.length,_,bL,rfl,rfl,by rw[aO,bN],λk hk=>oO k hk⟩
abbrev bIn:FuncId:=17
theorem cMw:Ent Tryz.prog bIn:=aU func17 rfl kR
theorem cMx:Tryz.prog.funcs[bIn]? =some Tryz.f17:=func17
theorem aSp (d:Sl Int) (p:ProgM) (q0:Nat) (hd:d.l.length<=9223372036854775807) (hp:q0<=d.l.length) (h1:p.c.l.length<=1000) (h2:p.r.l.length<=1000):Ctr Tryz.prog bIn [true] [.c (.p 0 0),.a p.C] (tpB d q0) (λg:BasM×Nat=>⟨.a g.1.C,tpB d g.2,(g.1.c.l.length=p.c.l.length/\g.1.r.l.length=p.r.l.length)/\g.2<=d.l.length⟩):=by
 refine aX gT cMw cMx rfl rfl rfl bL (eT rfl) (Sd.sq (aA gT mxd (Sd.sq (aA gT mxd (vP 3 0 3 1 rfl rfl bL rfl (vP 3 1 3 1 rfl rfl bL rfl (aA gT mxd ?_)))))))
 refine cE (λ_=>true) (λg:List Int×Nat=>cBt g.1.length) (λg=>aSo d p g.2 g.1 []) (λ_=>[]) (λg=>g.1.length<=p.c.l.length/\g.2<=d.l.length) (λg=>p.c.l.length-g.1.length) λhM=>⟨bF hM (chg:=λg:List Int×Nat=>cBt g.1.length) (bls:=λg=>aSo d p g.2 g.1 []) (fls:=λ_=>[]) ([],q0) ⟨aC _,hp⟩ rfl ⟨rfl,rfl,rfl,rfl,rfl,rfl⟩ trivial ⟨rfl,rfl,rfl,rfl,rfl⟩ bL aDp rfl,λ⟨C,q⟩ ⟨hk,hq⟩=>aA gT mxd ⟨λh1=>aA gT mxd ?_,λh1=>aA gT mxd ?_⟩⟩
 all_goals
  replace hk:C.length<=p.c.l.length:=hk
  replace hq:q<=d.l.length:=hq
 ·replace h1:(C.length:Int)<(p.c.l.length:Nat):=h1
  refine⟨.treeX [] [2000,1,2002] (trS [3,4,1005,2006,1007]),by kernel_rfl,[0],nN d q 5 hd hq dC dC,rfl,rfl,rfl,λg ⟨hg,hq2⟩=>⟨rfl,rfl,apI (x:=C) oM,(λc hc=>by cases hc),(λc hc=>by rw[aE.1 hc];rfl),(C.length+1:Nat),wi,bF hM (chg:=λg:List Int×Nat=>cBt g.1.length) (bls:=λg=>aSo d p g.2 g.1 []) (fls:=λ_=>[]) (C++[g.1],g.2) ⟨⟨?_,hq2⟩,?_⟩ rfl ⟨rfl,rfl,rfl,?_,?_,rfl⟩ trivial ⟨?_,rfl,rfl,rfl,rfl⟩ bL aDp rfl⟩⟩
  ·show(C++[g.1]).length<=_;simp;omega
  ·show p.c.l.length-(C++[g.1]).length<p.c.l.length-C.length;simp;omega
  ·show(_,_,[CV.s 4 (C.length+1),_])=(_,_,[CV.s 4 (C++[_]).length,_])
   rw[aF];rfl
  ·show(_,_,_)=(_,_,_)
   rw[bI];rfl
  show((C.length+1:Nat):Int)=((C++[g.1]).length:Nat);simp
 replace h1:¬(C.length:Int)<(p.c.l.length:Nat):=h1
 refine aA gT mxd ?_
 refine cE (λ_=>true) (λg:List Int×Nat=>cBu g.1.length) (λg=>aSo d p g.2 C g.1) (λ_=>[]) (λg=>g.1.length<=p.r.l.length/\g.2<=d.l.length) (λg=>p.r.l.length-g.1.length) λhM=>⟨bF hM (chg:=λg:List Int×Nat=>cBu g.1.length) (bls:=λg=>aSo d p g.2 C g.1) (fls:=λ_=>[]) ([],q) ⟨aC _,hq⟩ rfl ⟨rfl,rfl,rfl,rfl,rfl,rfl⟩ trivial ⟨rfl,rfl,rfl,rfl,rfl⟩ bL aDp rfl,λ⟨R,q⟩ ⟨hk,hq⟩=>aA gT mxd ⟨λh1=>aA gT mxd ?_,λh1=>aA gT mxd ?_⟩⟩
 all_goals
  replace hk:R.length<=p.r.l.length:=hk
  replace hq:q<=d.l.length:=hq
 ·replace h1:(R.length:Int)<(p.r.l.length:Nat):=h1
  refine⟨.treeX [] [2000,1,2002] (trS [3,4,1005,2006,1007]),by kernel_rfl,[0],nN d q 4 hd hq dC dC,rfl,rfl,rfl,λg ⟨hg,hq2⟩=>⟨rfl,rfl,apI (x:=R) oM,(λc hc=>dB (bR _ c hc)),(λc hc=>by rw[aE.1 hc];rfl),(R.length+1:Nat),wi,bF hM (chg:=λg:List Int×Nat=>cBu g.1.length) (bls:=λg=>aSo d p g.2 C g.1) (fls:=λ_=>[]) (R++[g.1],g.2) ⟨⟨?_,hq2⟩,?_⟩ rfl ⟨rfl,rfl,rfl,?_,rfl,?_⟩ trivial ⟨?_,rfl,rfl,rfl,rfl⟩ bL aDp rfl⟩⟩
  ·show(R++[g.1]).length<=_;simp;omega
  ·show p.r.l.length-(R++[g.1]).length<p.r.l.length-R.length;simp;omega
  ·show(_,_,[_,CV.s 5 (R.length+1)])=(_,_,[_,CV.s 5 (R++[_]).length])
   rw[aF];rfl
  ·show(_,_,_)=(_,_,_)
   rw[bI];rfl
  show((R.length+1:Nat):Int)=((R++[g.1]).length:Nat);simp
 replace h1:¬(R.length:Int)<(p.r.l.length:Nat):=h1
 show Sd _ _ _ _ _ _
 refine kU tSd 5 rfl bL (bR _) bL rfl λA a1=>⟨_,mA kB (bR _),jQ tSd 3 0 [.s 4 C.length,cI ⟨A.map λb=>⟨b,0,none⟩,a1,R⟩] rfl rfl rfl rfl (qW (k0:=1) rfl aGh) ?_⟩
 refine kU tSd 4 rfl bL (bR _) bL rfl λA2 a2=>⟨_,rfl,jQ tSd 3 1 [cI ⟨A2.map λb=>⟨b,0,none⟩,a2,C⟩,cI ⟨A.map λb=>⟨b,0,none⟩,a1,R⟩] rfl rfl rfl rfl (qW (k0:=0) rfl aGh) ?_⟩
 exact aA gT mxd ⟨(⟨⟨A2.map λb=>⟨b,0,none⟩,a2,C⟩,⟨A.map λb=>⟨b,0,none⟩,a1,R⟩⟩,q),⟨⟨by show C.length=_;omega,by show R.length=_;omega⟩,hq⟩,fH rfl rfl bL (aB rfl aZ) rfl (eT rfl)⟩
def kvL (x:Nat->Nat) (V:Nat->CV):Nat->List CV
 |0=>[]
 |k+1=>kvL x V k++[iC (x k:Nat),V k]
section kv
variable {x:Nat->Nat} {V:Nat->CV}
theorem aKw:∀k,(kvL x V k).length=2*k
 |0=>rfl
 |k+1=>by
  have:=aKw k
  show(kvL x V k++_).length=_
  rw[aF,this];rfl
theorem aFr:∀{k i:Nat},i<k->(kvL x V k)[2*i]? =some (iC (x i:Nat))/\(kvL x V k)[2*i+1]? =some (V i)
 |0,i,h=>absurd h (aD _)
 |k+1,i,h=>by
  have hl:=aKw (x:=x) (V:=V) k
  show(kvL x V k++_)[2*i]? =_/\(kvL x V k++_)[2*i+1]? =_
  by_cases e:i<k
  ·rw[bD oM,bD oM];exact aFr e
  obtain rfl:i=k:=by omega
  rw[cA oM,cA oM,hl,iZ,gV]
  exact⟨rfl,rfl⟩
theorem aBz {k i:Nat} {z:Int} {c:CV} (h1:(kvL x V k)[2*i]? =some (.v (.int .i64 z))) (h2:(kvL x V k)[2*i+1]? =some c):i<k/\z=(x i:Nat)/\c=V i:=by
 have hi:i<k:=by have:=eF h2;rw[aKw] at this;omega
 obtain⟨h3,h4⟩:=aFr (x:=x) (V:=V) hi
 rw[h3] at h1
 rw[h4] at h2
 injection h1 with h1
 injection h1 with h1
 injection h1 with _ h1
 injection h2 with h2
 exact⟨hi,h1.symm,h2.symm⟩
end kv
open Classical in
noncomputable def aGi (κ:Nat->Nat) (n:Nat) (z:Int):Option Nat:=if h:∃k,k<n/\((κ k:Nat):Int)=z then some h.choose else none
noncomputable def jL (κ:Nat->Nat) (n:Nat) (es:List En):List En:=es.filterMap λe=>(aGi κ n e.1).map λk=>((k:Int),e.2)
section cof
variable {κ:Nat->Nat} {n:Nat}
theorem aCa {z:Int} {k:Nat} (h:aGi κ n z=some k):k<n/\((κ k:Nat):Int)=z:=by
 unfold aGi at h
 split at h
 ·next hh=>injection h with h;rw[<-h];exact hh.choose_spec
 cases h
theorem aWg (hm:∀k l,k<l->l<n->κ k<κ l) {k:Nat} (hk:k<n):aGi κ n ((κ k:Nat):Int)=some k:=by
 unfold aGi
 have hh:∃l,l<n/\((κ l:Nat):Int)=((κ k:Nat):Int):=⟨k,hk,rfl⟩
 rw[dif_pos hh]
 have h1:=hh.choose_spec
 refine congrArg some ?_
 rcases eS hh.choose k with h|h|h
 ·have:=hm _ _ h hk;omega
 ·exact h
 have:=hm _ _ h h1.1;omega
theorem aYu {z:Int} (h:∀k,k<n->((κ k:Nat):Int)≠z):aGi κ n z=none:=by
 unfold aGi
 rw[dif_neg λ⟨k,hk,hh⟩=>h k hk hh]
theorem aFs {es:List En} {e:En} (h:e∈jL κ n es):∃e'∈es,∃k,k<n/\((κ k:Nat):Int)=e'.1/\e=((k:Int),e'.2):=by
 unfold jL at h
 obtain⟨e',h1,h2⟩:=List.mem_filterMap.1 h
 cases hp:aGi κ n e'.1 with
 |none=>rw[hp] at h2;cases h2
 |some k=>
  rw[hp] at h2
  injection h2 with h2
  obtain⟨h3,h4⟩:=aCa hp
  exact⟨e',h1,k,h3,h4,h2.symm⟩
theorem aOj (hm:∀k l,k<l->l<n->κ k<κ l) {es:List En} (ha:Asc es):Asc (jL κ n es):=by
 unfold jL Asc
 refine List.pairwise_filterMap.2 (List.Pairwise.imp (λ{a b} hab x hx y hy=>?_) ha)
 cases hp:aGi κ n a.1 with
 |none=>rw[hp] at hx;cases hx
 |some k=>
  cases hp2:aGi κ n b.1 with
  |none=>rw[hp2] at hy;cases hy
  |some l=>
   rw[hp] at hx
   rw[hp2] at hy
   injection hx with hx
   injection hy with hy
   obtain⟨h1,h2⟩:=aCa hp
   obtain⟨h3,h4⟩:=aCa hp2
   rw[<-hx,<-hy]
   show(k:Int)<(l:Nat)
   rcases eS k l with h|h|h
   ·omega
   ·rw[h] at h2;omega
   have:=hm _ _ h h1;omega
theorem yI (hm:∀k l,k<l->l<n->κ k<κ l) {es:List En} {c:Int} (h:VOk es c):VOk (jL κ n es) (n:Nat):=⟨aOj hm h.1,λe he=>by
 obtain⟨e',h1,k,h2,h3,rfl⟩:=aFs he
 exact⟨by show(0:Int)<=(k:Nat);omega,by show(k:Int)<(n:Nat);omega,(h.2 e' h1).2.2⟩⟩
theorem uI (hm:∀k l,k<l->l<n->κ k<κ l) {es:List En} (ha:Asc es) {k:Nat} (hk:k<n):Vm.get (jL κ n es) (k:Nat)=Vm.get es (κ k:Nat):=by
 by_cases h:∃e∈es,e.1=((κ k:Nat):Int)
 ·obtain⟨e,h1,h2⟩:=h
  have h3:((k:Int),e.2)∈jL κ n es:=List.mem_filterMap.2 ⟨e,h1,by rw[h2,aWg hm hk];rfl⟩
  have h4:=rF (aOj hm ha) h3
  rw[show Vm.get (jL κ n es) (k:Nat)=_ from h4,<-h2,rF ha h1]
 rw[Vm.get_none (a:=es) λe he h2=>h ⟨e,he,h2⟩]
 refine Vm.get_none λe he h2=>h ?_
 obtain⟨e',h1,l,h3,h4,rfl⟩:=aFs he
 have:l=k:=by have:(l:Int)=(k:Nat):=h2;omega
 exact⟨e',h1,by rw[<-h4,this]⟩
theorem aKx {es:List En} {B:Nat} (h:rbE es B):rbE (jL κ n es) B:=λe he=>by
 obtain⟨e',h1,k,_,_,rfl⟩:=aFs he
 exact h e' h1
theorem aHk {es:List En} {t:Nat} (ht:t<es.length) (h:∀k,k<n->((κ k:Nat):Int)≠(es.getD t default).1):jL κ n (es.take (t+1))=jL κ n (es.take t):=by
 rw[aBv ht]
 unfold jL
 rw[List.filterMap_append,List.filterMap_cons,aYu h]
 simp
theorem aHl (hm:∀k l,k<l->l<n->κ k<κ l) {es:List En} {t k:Nat} (ht:t<es.length) (hk:k<n) (h:(es.getD t default).1=((κ k:Nat):Int)):jL κ n (es.take (t+1))=jL κ n (es.take t)++[((k:Int),(es.getD t default).2)]:=by
 rw[aBv ht]
 unfold jL
 rw[List.filterMap_append,List.filterMap_cons,h,aWg hm hk]
 rfl
end cof
abbrev mpF (b:Nat) (G:Nat->List CV):Fam:=⟨1000002,1,1,λ_=>some b,λ_=>0,G⟩
structure CofA (p:ProgM) (rs cs:Sl Int) (ρ κ:Nat->Nat):Prop where
 r:∀k,k<rs.l.length->rs.l.getD k 0=(ρ k:Nat)/\ρ k<p.r.l.length
 c:∀k,k<cs.l.length->cs.l.getD k 0=(κ k:Nat)/\κ k<p.c.l.length
 m:∀k l,k<l->l<cs.l.length->κ k<κ l
 rl:rs.l.length<=4096
 cl:cs.l.length<=4096
abbrev cBv (p:ProgM):BL:=[(42,0,p.C),(24,0,[iC 0,iC 0,.v (.slice none 0 0)])]
abbrev cfB (p:ProgM) (a b:Nat) (H:List CV):BL:=[(42,0,p.C),(24,0,[iC 0,iC 0,.v (.slice none 0 0)]),(65,1,H),(24,0,[iC a,iC b,.s 2 a])]
theorem aFt {p:ProgM} {a b:Nat} {P:Nat->CV} (h:∀j,j<a->fM (P j)=true):scB 4 (cfB p a b (dR a P)):=aB rfl (aB rfl (aB (aW.2 λc hc=>rQ (aY h c hc)) (aB rfl aZ)))
abbrev cBw (rs cs:Sl Int) (b k:Nat):List (Nat×DV):=[(20,.c (iC k)),(7,.c (.v (.map (some b)))),(18,.c (cI cs)),(19,.c (iC (cs.l.length:Nat))),(3,.c (.p 0 0)),(6,.c (.p 1 0)),(1,.c (cI rs)),(2,.c (cI cs))]
abbrev bPh (rs:Sl Int) (b k:Nat):List (Nat×DV):=[(39,.c (iC k)),(7,.c (.v (.map (some b)))),(37,.c (cI rs)),(38,.c (iC (rs.l.length:Nat))),(3,.c (.p 0 0)),(6,.c (.p 1 0)),(10,.c (.p 3 0))]
abbrev bPi (p:ProgM) (rs:Sl Int) (b k i t:Nat):List (Nat×DV):=(51,.c (iC t))::(11,.c (iC k))::(49,.c (cC (p.r.l.getD i default).e))::(50,.c (iC ((p.r.l.getD i default).e.l.length:Nat)))::bPh rs b k
theorem bPj {ys:List EntM} {rs:List En} {B:Nat} {e:EntM} {r:En} (h:Ev ys rs B) (h1:e.ix=r.1) (h2:Rq e.v r.2 B):Ev (ys++[e]) (rs++[r]) B:=⟨by simp[h.ln],λk hk=>by
 rw[aF,cP] at hk
 have hl:=h.ln
 rcases eD k rs.length with h3|h3
 ·have e1:(ys++[e]).getD k default=ys.getD k default:=by simp[bD (show k<ys.length by omega)]
  have e2:(rs++[r]).getD k default=rs.getD k default:=by simp[bD h3]
  rw[e1,e2];exact h.e k h3
 obtain rfl:k=rs.length:=by omega
 have e1:(ys++[e]).getD rs.length default=e:=by rw[<-hl];simp
 have e2:(rs++[r]).getD rs.length default=r:=by simp
 rw[e1,e2];exact⟨h1,h2⟩⟩
def cMy:Ord:=.treeX [] [2000,1,2002,2003,4,2005,2006,1007,2008,2009,10,2011] (trS [12,13,2014,1015])
abbrev cBx:FuncId:=56
theorem cTk:Ent Tryz.prog cBx:=aU func56 rfl kR
theorem cTl:Tryz.prog.funcs[cBx]? =some Tryz.f56:=func56
theorem bSj (p:ProgM) (rs cs:Sl Int) {q:PrQ} {B:Nat} {ρ κ:Nat->Nat} (h:PrV p q B) (hA:CofA p rs cs ρ κ):Ctr Tryz.prog cBx [] [.a p.C,.c (cI rs),.c (cI cs)] [] (λg:MatM=>⟨.a g.C,[],Mr g (λk=>jL κ cs.l.length (q.M (ρ k))) rs.l.length cs.l.length B⟩):=by
 have hrl:=hA.rl
 have hcl:=hA.cl
 refine aX gT cTk cTl rfl rfl rfl bL aS (aA gT mxd λb=>?_)
 refine cE (λ_=>true) (λg:Nat×(Nat->List CV)=>cBw rs cs b g.1) (λ_=>cBv p) (λg=>[mpF b g.2]) (λg=>g.1<=cs.l.length/\g.2 0=kvL κ (λk=>iC (k:Nat)) g.1) (λg=>cs.l.length-g.1) λhM=>⟨bF hM (chg:=λg:Nat×(Nat->List CV)=>cBw rs cs b g.1) (bls:=λ_=>cBv p) (fls:=λg=>[mpF b g.2]) (0,λ_=>[]) ⟨aC _,rfl⟩ rfl ⟨rfl,rfl⟩ ⟨rfl,trivial⟩ ⟨rfl,rfl,rfl,rfl,rfl,rfl,rfl,rfl⟩ bL (aB rfl (aB rfl aZ)) rfl,λ⟨k,G⟩ ⟨hk,hG⟩=>aA gT mxd ⟨λh1=>aA gT mxd ?_,λh1=>aA gT mxd ?_⟩⟩
 all_goals
  replace hk:k<=cs.l.length:=hk
  replace hG:G 0=kvL κ (λk=>iC (k:Nat)) k:=hG
 ·replace h1:(k:Int)<(cs.l.length:Nat):=h1
  have hkn:k<cs.l.length:=by omega
  refine⟨k,⟨rfl,hkn⟩,0,0,κ k,⟨Nat.one_pos,rfl,(hA.c k hkn).1,λi c' h2 h3=>?_⟩,(k+1:Nat),wi,bF hM (chg:=λg:Nat×(Nat->List CV)=>cBw rs cs b g.1) (bls:=λ_=>cBv p) (fls:=λg=>[mpF b g.2]) (k+1,upd G 0 (G 0++[iC (κ k:Nat),iC (k:Nat)])) ⟨⟨hkn,?_⟩,show cs.l.length-(k+1)<cs.l.length-k by omega⟩ rfl ⟨rfl,rfl⟩ ⟨rfl,trivial⟩ ⟨rfl,rfl,rfl,rfl,rfl,rfl,rfl,rfl⟩ bL (aB rfl (aB rfl aZ)) rfl⟩
  ·rw[show(mpF b G).get 0=kvL κ (λk=>iC (k:Nat)) k from hG] at h2 h3
   obtain⟨h4,h5,_⟩:=aBz h2 h3
   have:=hA.m i k h4 hkn
   omega
  show upd G 0 _ 0=_
  rw[bH,hG];rfl
 replace h1:¬(k:Int)<(cs.l.length:Nat):=h1
 obtain rfl:k=cs.l.length:=by omega
 refine aA gT mxd ⟨rs.l.length,⟨rfl,rfl,by show 24*_<=_;omega,by simp only[maxLen];omega⟩,?_⟩
 show Sd _ _ _ _ _ _
 refine aYg tSd 82 4 rs.l.length bL (gG tSd (l:=List.replicate rs.l.length (.v (.slice none 0 0))) 2 (dR rs.l.length (hdP (λ_=>none) (λ_=>0) λ_=>[])) rfl (by rw[dK,dF]) (λk c c' h1 h2=>?_) ?_)
 ·have hk:k<rs.l.length:=by have:=eF h1;simpa using this
  have h3:=eG (P:=hdP (λ_=>none) (λ_=>0) λ_=>[]) hk
  rw[bN,h2] at h3
  injection h3 with h3
  rw[h3,(fY.1 (aQ h1)).2]
  exact LeC.nilh
 refine cE (λ_=>true) (λg:Nat×(Nat->Option Nat)×(Nat->Nat)×(Nat->List EntM)=>bPh rs b g.1) (λg=>cfB p rs.l.length cs.l.length (dR rs.l.length (hdP g.2.1 g.2.2.1 g.2.2.2))) (λg=>[mpF b G,trF rs.l.length g.2.1 g.2.2.1 g.2.2.2]) (λg=>g.1<=rs.l.length/\(∀k,k<g.1->Ev (g.2.2.2 k) (jL κ cs.l.length (q.M (ρ k))) B)/\∀k,g.1<=k->g.2.2.2 k=[]) (λg=>rs.l.length-g.1) λhM=>⟨bF hM (chg:=λg:Nat×(Nat->Option Nat)×(Nat->Nat)×(Nat->List EntM)=>bPh rs b g.1) (bls:=λg=>cfB p rs.l.length cs.l.length (dR rs.l.length (hdP g.2.1 g.2.2.1 g.2.2.2))) (fls:=λg=>[mpF b G,trF rs.l.length g.2.1 g.2.2.1 g.2.2.2]) (0,λ_=>none,λ_=>0,λ_=>[]) ⟨aC _,λk hk=>absurd hk (aD _),λ_ _=>rfl⟩ rfl ⟨rfl,rfl,rfl,rfl⟩ ⟨rfl,rfl,trivial⟩ ⟨rfl,rfl,rfl,rfl,rfl,rfl,rfl⟩ bL (aFt λ_ _=>rfl) rfl,λ⟨i,A,cap,S⟩ ⟨hi,hS,hS0⟩=>aA gT mxd ⟨λh2=>aA gT mxd ?_,λh2=>aA gT mxd ?_⟩⟩
 all_goals
  replace hi:i<=rs.l.length:=hi
  replace hS:∀k,k<i->Ev (S k) (jL κ cs.l.length (q.M (ρ k))) B:=hS
  replace hS0:∀k,i<=k->S k=[]:=hS0
 ·replace h2:(i:Int)<(rs.l.length:Nat):=h2
  have hia:i<rs.l.length:=by omega
  obtain⟨r1,r2⟩:=hA.r i hia
  have hrow:=h.rd.r _ r2
  have hv:=h.v _ r2
  have hlen:=h.len r2
  have hpc:=h.c
  have hle:=hrow.e.ln
  refine⟨i,⟨rfl,hia⟩,ρ i,⟨r1,r2⟩,?_⟩
  show Sd _ _ _ _ _ _
  refine cE (λ_=>true) (λg:Nat×(Nat->Option Nat)×(Nat->Nat)×(Nat->List EntM)=>bPi p rs b i (ρ i) g.1) (λg=>cfB p rs.l.length cs.l.length (dR rs.l.length (hdP g.2.1 g.2.2.1 g.2.2.2))) (λg=>[mpF b G,trF rs.l.length g.2.1 g.2.2.1 g.2.2.2]) (λg=>g.1<=(q.M (ρ i)).length/\(∀k,k<i->Ev (g.2.2.2 k) (jL κ cs.l.length (q.M (ρ k))) B)/\Ev (g.2.2.2 i) (jL κ cs.l.length ((q.M (ρ i)).take g.1)) B/\∀k,i<k->g.2.2.2 k=[]) (λg=>(q.M (ρ i)).length-g.1) λhM2=>⟨bF hM2 (chg:=λg:Nat×(Nat->Option Nat)×(Nat->Nat)×(Nat->List EntM)=>bPi p rs b i (ρ i) g.1) (bls:=λg=>cfB p rs.l.length cs.l.length (dR rs.l.length (hdP g.2.1 g.2.2.1 g.2.2.2))) (fls:=λg=>[mpF b G,trF rs.l.length g.2.1 g.2.2.1 g.2.2.2]) (0,A,cap,S) ⟨aC _,hS,by show Ev (S i) _ B;rw[hS0 i (aI i)];exact⟨rfl,λk hk=>absurd hk (aD _)⟩,λk hk=>hS0 k (eX hk)⟩ rfl ⟨rfl,rfl,rfl,rfl⟩ ⟨rfl,rfl,trivial⟩ ⟨rfl,rfl,rfl,rfl,rfl,rfl,rfl,rfl,rfl,rfl,rfl⟩ bL (aFt λ_ _=>rfl) rfl,λ⟨t,A,cap,S⟩ ⟨ht,hS,hSi,hS0⟩=>aA gT mxd ⟨λh3=>aA gT mxd ?_,λh3=>aA gT mxd ?_⟩⟩
  all_goals
   replace ht:t<=(q.M (ρ i)).length:=ht
   replace hS:∀k,k<i->Ev (S k) (jL κ cs.l.length (q.M (ρ k))) B:=hS
   replace hSi:Ev (S i) (jL κ cs.l.length ((q.M (ρ i)).take t)) B:=hSi
   replace hS0:∀k,i<k->S k=[]:=hS0
  ·replace h3:(t:Int)<((p.r.l.getD (ρ i) default).e.l.length:Nat):=h3
   have htl:t<(q.M (ρ i)).length:=by omega
   have hte:t<(p.r.l.getD (ρ i) default).e.l.length:=by omega
   have he:=hrow.e.e t htl
   refine⟨t,⟨rfl,hte⟩,0,0,⟨Nat.one_pos,rfl⟩,λj c' h4 h5=>?_,λh4=>?_⟩
   ·rw[show(mpF b G).get 0=kvL κ (λk=>iC (k:Nat)) cs.l.length from hG] at h4 h5
    obtain⟨hj,hz,hc'⟩:=aBz h4 h5
    subst hc'
    have hcf:=aHl hA.m htl hj (he.1.symm.trans hz)
    have hci2:(dR rs.l.length (hdP A cap S))[i*1]? =some (.h (A i) (S i).length (cap i)):=eG hia
    have hSl:=hSi.ln
    have hcl2:(jL κ cs.l.length ((q.M (ρ i)).take t)).length<=t:=aJ (tS _ _) (by rw[bG];omega)
    have hcx:∀c'∈(⟨j,((p.r.l.getD (ρ i) default).e.l.getD t default).v⟩:EntM).C,fM c'=true:=λc' hc'=>by
     rcases bW.1 hc' with rfl|hc'
     ·rfl
     exact iT _ c' hc'
    refine⟨cMy,by kernel_rfl,i,⟨rfl,hia,cS hia⟩,_,_,⟨hci2,rfl⟩,ck rfl (ck rfl (ck rfl (ck (congrArg tI hci2) (ck rfl (ck rfl rfl))))),1,i,⟨rfl,hia,rfl,rfl,(gM _).symm,by show(S i).length+1<=maxLen;simp only[maxLen];omega,by show((S i).length+1)*64<=_;omega,hcx⟩,λA' c'=>⟨ck rfl (ck rfl (ck rfl (ck (congrArg tI hci2) (ck rfl (ck rfl rfl))))),i,⟨rfl,hia,cS hia⟩,_,aBp (e:=⟨j,((p.r.l.getD (ρ i) default).e.l.getD t default).v⟩) hia,?_⟩⟩
    refine⟨(t+1:Nat),wi,bF hM2 (chg:=λg:Nat×(Nat->Option Nat)×(Nat->Nat)×(Nat->List EntM)=>bPi p rs b i (ρ i) g.1) (bls:=λg=>cfB p rs.l.length cs.l.length (dR rs.l.length (hdP g.2.1 g.2.2.1 g.2.2.2))) (fls:=λg=>[mpF b G,trF rs.l.length g.2.1 g.2.2.1 g.2.2.2]) (t+1,upd A i A',upd cap i c',upd S i (S i++[(⟨(j:Nat),((p.r.l.getD (ρ i) default).e.l.getD t default).v⟩:EntM)])) ⟨⟨htl,λk hk=>?_,?_,λk hk=>?_⟩,show(q.M (ρ i)).length-(t+1)<(q.M (ρ i)).length-t by omega⟩ rfl ⟨rfl,rfl,rfl,rfl⟩ ⟨rfl,aDf (T:=82) (n:=rs.l.length) (A:=upd A i A') (cap:=upd cap i c') (G:=S) (j:=i) (e:=⟨j,((p.r.l.getD (ρ i) default).e.l.getD t default).v⟩),trivial⟩ ⟨rfl,rfl,rfl,rfl,rfl,rfl,rfl,rfl,rfl,rfl,rfl⟩ bL (aFt λ_ _=>rfl) rfl⟩
    ·show Ev (upd S i _ k) _ B
     rw[bA oM];exact hS k hk
    ·show Ev (upd S i _ i) (jL κ cs.l.length ((q.M (ρ i)).take (t+1))) B
     rw[bH,hcf];exact bPj hSi rfl he.2
    show upd S i _ k=[]
    rw[bA oM];exact hS0 k hk
   have hno:∀k,k<cs.l.length->((κ k:Nat):Int)≠((q.M (ρ i)).getD t default).1:=λk hk e=>by
    rw[show(mpF b G).get 0=kvL κ (λk=>iC (k:Nat)) cs.l.length from hG] at h4
    have h5:=aFr (x:=κ) (V:=λk=>iC (k:Nat)) hk
    exact h4 k _ (h5.1.trans (congrArg (λz=>some (iC z)) (e.trans he.1.symm))) h5.2
   refine⟨(t+1:Nat),wi,bF hM2 (chg:=λg:Nat×(Nat->Option Nat)×(Nat->Nat)×(Nat->List EntM)=>bPi p rs b i (ρ i) g.1) (bls:=λg=>cfB p rs.l.length cs.l.length (dR rs.l.length (hdP g.2.1 g.2.2.1 g.2.2.2))) (fls:=λg=>[mpF b G,trF rs.l.length g.2.1 g.2.2.1 g.2.2.2]) (t+1,A,cap,S) ⟨⟨htl,hS,?_,hS0⟩,show(q.M (ρ i)).length-(t+1)<(q.M (ρ i)).length-t by omega⟩ rfl ⟨rfl,rfl,rfl,rfl⟩ ⟨rfl,rfl,trivial⟩ ⟨rfl,rfl,rfl,rfl,rfl,rfl,rfl,rfl,rfl,rfl,rfl⟩ bL (aFt λ_ _=>rfl) rfl⟩
   show Ev (S i) (jL κ cs.l.length ((q.M (ρ i)).take (t+1))) B
   rw[aHk htl hno];exact hSi
  replace h3:¬(t:Int)<((p.r.l.getD (ρ i) default).e.l.length:Nat):=h3
  obtain rfl:t=(q.M (ρ i)).length:=by omega
  rw[cU] at hSi
  exact⟨(i+1:Nat),wi,bF hM (chg:=λg:Nat×(Nat->Option Nat)×(Nat->Nat)×(Nat->List EntM)=>bPh rs b g.1) (bls:=λg=>cfB p rs.l.length cs.l.length (dR rs.l.length (hdP g.2.1 g.2.2.1 g.2.2.2))) (fls:=λg=>[mpF b G,trF rs.l.length g.2.1 g.2.2.1 g.2.2.2]) (i+1,A,cap,S) ⟨⟨hia,λk hk=>(cM (cV hk)).elim (hS k) λe=>e▸hSi,hS0⟩,show rs.l.length-(i+1)<rs.l.length-i by omega⟩ rfl ⟨rfl,rfl,rfl,rfl⟩ ⟨rfl,rfl,trivial⟩ ⟨rfl,rfl,rfl,rfl,rfl,rfl,rfl⟩ bL (aFt λ_ _=>rfl) rfl⟩
 replace h2:¬(i:Int)<(rs.l.length:Nat):=h2
 obtain rfl:i=rs.l.length:=by omega
 have hlen:∀k,k<rs.l.length->(jL κ cs.l.length (q.M (ρ k))).length<=cs.l.length:=λk hk=>kO (yI hA.m (h.v _ (hA.r k hk).2).2)
 show Sd _ _ _ _ _ _
 refine jQ tSd 2 1 (dR rs.l.length λj=>cC (hdS A cap S j)) rfl rfl rfl (by rw[dK,dK]) (aFg bRr) ?_
 refine kU tSd 2 rfl bL (aY λ_ _=>rfl) bL rfl λA2 c2=>?_
 refine jQ tSd 3 2 [iC rs.l.length,iC cs.l.length,mI ⟨A2.map λb=>⟨b,0,none⟩,c2,kN (hdS A cap S) rs.l.length⟩] rfl rfl rfl rfl (vK (k0:=2) rfl vL) (aA gT mxd ⟨⟨rs.l.length,cs.l.length,⟨A2.map λb=>⟨b,0,none⟩,c2,kN (hdS A cap S) rs.l.length⟩⟩,⟨rfl,rfl,nM,λj hj=>?_,λj hj=>⟨yI hA.m (h.v _ (hA.r j hj).2).2,hlen j hj⟩⟩,aM rfl rfl trivial⟩)
 show Ev ((kN (hdS A cap S) rs.l.length).getD j cO).l _ B
 rw[qD hj]
 exact hS j hj
inductive KpS where
 |z
 |o (b:BasM)
 |i (x:Sl Int)
 |t (x:Sl Int)
def KpS.B:KpS->BL
 |.z=>[]
 |.o b=>[(45,0,[cI b.c,cI b.r])]
 |.i x=>[(38,0,[cI x])]
 |.t x=>[(101,0,[.f 129 [] [(1,0)]]),(38,0,[cI x])]
def KpS.V:KpS->FuncId->DV
 |.z,q=> .c (.f q [] [])
 |.o _,q=> .c (.f q [] [(0,0)])
 |.i _,q=> .c (.f q [] [(0,0)])
 |.t _,q=> .c (.f q [] [(0,0)])
def KpS.A:KpS->List DV
 |.z=>[]
 |.o _=>[.c (.p 0 0)]
 |.i _=>[.c (.p 0 0)]
 |.t _=>[.c (.p 0 0)]
def KpS.m:KpS->List Nat
 |.z=>[]
 |.o _=>[0]
 |.i _=>[0]
 |.t _=>[0,1]
def KpS.cl:KpS->List Bool
 |.z=>[]
 |.o _=>[true]
 |.i _=>[true]
 |.t _=>[false,true]
def cTm (own:Bool) (y:KpS) (L:List Int) (g:Sl Int):Out:=match own with
 |true=>⟨.c (.s y.B.length L.length),y.B++[(3,1,L.map iC)],g=g⟩
 |false=>⟨.c (cI g),y.B,g.l=L⟩
abbrev aOk:FuncId:=53
theorem cTn:Ent Tryz.prog aOk:=aU func53 rfl kR
theorem cTo:Tryz.prog.funcs[aOk]? =some Tryz.f53:=func53
theorem bSk (own:Bool) (y:KpS) (q:FuncId) (n:Nat) (P:Nat->Prop) [DecidablePred P] (hn:n<=4096) (hq:∀i,i<n->Ctr Tryz.prog q y.cl (.c (iC (i:Nat))::y.A) y.B (λ_:Unit=>⟨pC (P i),y.B,True⟩)):Ctr Tryz.prog aOk y.cl [.c (iC n),y.V q] y.B (cTm own y (fQ P n)):=by
 have sc:∀L:List Int,scB (y.B.length+1) (y.B++[(3,1,L.map iC)]):=λL=>by
  cases y with
  |z=>exact aB (bU (bR _)) aZ
  |o b=>exact aB rfl (aB (bU (bR _)) aZ)
  |i x=>exact aB rfl (aB (bU (bR _)) aZ)
  |t x=>exact aB rfl (aB rfl (aB (bU (bR _)) aZ))
 have sc0:scB y.B.length y.B:=by
  cases y with
  |z=>exact aZ
  |o b=>exact aB rfl aZ
  |i x=>exact aB rfl aZ
  |t x=>exact aB rfl (aB rfl aZ)
 have hcl:ClB y.cl y.B:=by
  cases y with
  |z=>exact λi T es l hi=>by cases hi
  |o b=>exact eT rfl
  |i x=>exact eT rfl
  |t x=>exact ClB.cons (λh=>by cases h) (eT rfl)
 have hcl2:∀L:List Int,ClB y.cl (y.B++[(3,1,L.map iC)]):=λL=>by
  cases y with
  |z=>exact λi T es l _ hc=>by cases hc
  |o b=>exact ClB.cons (λ_=>rfl) λi T es l _ hc=>by cases hc
  |i x=>exact ClB.cons (λ_=>rfl) λi T es l _ hc=>by cases hc
  |t x=>exact ClB.cons (λh=>by cases h) (ClB.cons (λ_=>rfl) λi T es l _ hc=>by cases hc)
 let w:KpS:=y
 cases y
 all_goals
  refine aX gT cTn cTo rfl rfl rfl bL hcl (aA gT mxd (aIy 5 3 1 rfl bL (aA gT mxd ?_)))
  refine cE (λ_=>true) (λk:Nat=>[(8,.c (iC k)),(5,.c (.s w.B.length (fQ P k).length)),(7,.c (iC n)),(1,w.V q)]) (λk=>w.B++[(3,1,(fQ P k).map iC)]) (λ_=>[]) (λk=>k<=n) (λk=>n-k) λhM=>⟨bF hM (chg:=λk:Nat=>[(8,.c (iC k)),(5,.c (.s w.B.length (fQ P k).length)),(7,.c (iC n)),(1,w.V q)]) (bls:=λk=>w.B++[(3,1,(fQ P k).map iC)]) (fls:=λ_=>[]) 0 (aC _) rfl ?_ trivial ⟨rfl,rfl,rfl,rfl⟩ bL (sc _) rfl,λk hk=>aA gT mxd ⟨λh1=>aA gT mxd ?_,λh1=>aA gT mxd ?_⟩⟩
  ·first|exact rfl|exact⟨rfl,rfl⟩|exact⟨rfl,rfl,rfl⟩
  ·replace h1:(k:Int)<(n:Nat):=h1
   have hkn:k<n:=by omega
   have hsl:=rV (P:=P) k
   have yes:P k->fQ P (k+1)=fQ P k++[(k:Int)]:=xH
   first
    |refine⟨[],hq k hkn,rfl,rfl,rfl,λ_ _=>⟨λh4=>aA gT mxd ?_,λh4=>aA gT mxd ?_⟩⟩
    |refine⟨_,rfl,w.m,hq k hkn,rfl,rfl,rfl,λ_ _=>⟨λh4=>aA gT mxd ?_,λh4=>aA gT mxd ?_⟩⟩
   ·have ap:=apI (x:=fQ P k) (z:=(k:Nat)) (i:=w.B.length) oM
    refine⟨ap,(λc hc=>by rw[aE.1 hc];rfl),(k+1:Nat),wi,bF hM (chg:=λk:Nat=>[(8,.c (iC k)),(5,.c (.s w.B.length (fQ P k).length)),(7,.c (iC n)),(1,w.V q)]) (bls:=λk=>w.B++[(3,1,(fQ P k).map iC)]) (fls:=λ_=>[]) (k+1) ⟨hkn,show n-(k+1)<n-k by omega⟩ rfl ?_ trivial ⟨rfl,?_,rfl,rfl⟩ bL (sc _) rfl⟩
    ·have e:((3,1,(fQ P k).map iC++[iC (k:Nat)]):TypeId×Nat×List CV)=(3,1,(fQ P (k+1)).map iC):=by rw[yes h4,bI];rfl
     first|exact e|exact⟨rfl,e⟩|exact⟨rfl,rfl,e⟩
    show(fQ P k).length+1=(fQ P (k+1)).length
    rw[yes h4,aF];rfl
   refine⟨(k+1:Nat),wi,bF hM (chg:=λk:Nat=>[(8,.c (iC k)),(5,.c (.s w.B.length (fQ P k).length)),(7,.c (iC n)),(1,w.V q)]) (bls:=λk=>w.B++[(3,1,(fQ P k).map iC)]) (fls:=λ_=>[]) (k+1) ⟨hkn,show n-(k+1)<n-k by omega⟩ rfl ?_ trivial ⟨rfl,?_,rfl,rfl⟩ bL (sc _) rfl⟩
   ·have e:((3,1,(fQ P k).map iC):TypeId×Nat×List CV)=(3,1,(fQ P (k+1)).map iC):=by rw[sX h4]
    first|exact e|exact⟨rfl,e⟩|exact⟨rfl,rfl,e⟩
   show(fQ P k).length=(fQ P (k+1)).length
   rw[sX h4]
  replace h1:¬(k:Int)<(n:Nat):=h1
  obtain rfl:k=n:=by omega
  cases own
  ·refine rR 5 w.B.length (λj=>[iC ((fQ P k).getD j 0)]) rfl rfl (λj hj=>oO j hj) (by rw[aO,bN]) bL (bR _) (aI _) λA c _ _=>aA gT mxd ⟨⟨A,c,fQ P k⟩,rfl,fH rfl (by first|exact rfl|exact⟨rfl,rfl⟩|exact trivial) (aI _) sc0 rfl hcl⟩
  exact aA gT mxd ⟨cO,rfl,fH rfl (by first|exact rfl|exact⟨rfl,rfl⟩|exact⟨rfl,rfl,rfl⟩) (by first|exact bL|exact aC _) (sc _) rfl (hcl2 _)⟩
theorem bSl (y:KpS) (q:FuncId) (n:Nat) (P:Nat->Prop) [DecidablePred P] (hn:n<=4096) (hq:∀i,i<n->Ctr Tryz.prog q y.cl (.c (iC (i:Nat))::y.A) y.B (λ_:Unit=>⟨pC (P i),y.B,True⟩)):Ctr Tryz.prog aOk y.cl [.c (iC n),y.V q] y.B (λ_:Unit=>⟨.c (.s y.B.length (fQ P n).length),y.B++[(3,1,(fQ P n).map iC)],True⟩):=(bSk true y q n P hn hq).re λg hg=>⟨(),trivial,rfl,rfl,rfl⟩
theorem bSm (y:KpS) (q:FuncId) (n:Nat) (P:Nat->Prop) [DecidablePred P] (hn:n<=4096) (hq:∀i,i<n->Ctr Tryz.prog q y.cl (.c (iC (i:Nat))::y.A) y.B (λ_:Unit=>⟨pC (P i),y.B,True⟩)):Ctr Tryz.prog aOk y.cl [.c (iC n),y.V q] y.B (λg:Sl Int=>⟨.c (cI g),y.B,g.l=fQ P n⟩):=(bSk false y q n P hn hq).re λg hg=>⟨g,hg,rfl,rfl,rfl⟩
/-! ### the functions -/
abbrev aWh:FuncId:=54
theorem cMz:Ent Tryz.prog aWh:=aU func54 rfl kR
theorem cNa:Tryz.prog.funcs[aWh]? =some Tryz.f54:=func54
theorem cBy (i:Int):Ctr Tryz.prog aWh [] [.c (iC i)] [] (λ_:Unit=>⟨pC True,[],True⟩):=
 aX gT cMz cNa rfl rfl rfl bL aS (aA gT mxd ⟨(),trivial,aM (tt trivial) rfl trivial⟩)
abbrev aOl:FuncId:=55
theorem cNb:Ent Tryz.prog aOl:=aU func55 rfl kR
theorem cNc:Tryz.prog.funcs[aOl]? =some Tryz.f55:=func55
theorem cBz (b:BasM) (i:Nat) (hi:i<b.c.l.length):Ctr Tryz.prog aOl [true] [.c (iC i),.c (.p 0 0)] [(45,0,[cI b.c,cI b.r])] (λ_:Unit=>⟨pC (b.c.l.getD i 0=2),[(45,0,[cI b.c,cI b.r])],True⟩):=
 aX gT cNb cNc rfl rfl rfl bL (eT rfl) (aA gT mxd ⟨i,⟨rfl,hi⟩,(),trivial,fH mD rfl bL (aB rfl aZ) rfl (eT rfl)⟩)
def qF (x:Sl Int) (i:Nat):Prop:=i<x.l.length/\x.l.getD i 0=2
abbrev aHm:FuncId:=129
theorem cNd:Ent Tryz.prog aHm:=aU func129 rfl kR
theorem cNe:Tryz.prog.funcs[aHm]? =some Tryz.f129:=func129
theorem bIo (x:Sl Int) (i:Nat):Ctr Tryz.prog aHm [true] [.c (iC i),.c (.p 0 0)] [(38,0,[cI x])] (λ_:Unit=>⟨pC (qF x i),[(38,0,[cI x])],True⟩):=
 aX gT cNd cNe rfl rfl rfl bL (eT rfl) (aA gT mxd ⟨i,λh=>⟨rfl,by replace h:(i:Int)<(x.l.length:Nat):=h;omega⟩,(),trivial,fH ⟨λh=>⟨by have h1:(i:Int)<(x.l.length:Nat):=h.1;omega,h.2⟩,λh=>⟨by show(i:Int)<(x.l.length:Nat);have:=h.1;omega,h.2⟩⟩ rfl bL (aB rfl aZ) rfl (eT rfl)⟩)
abbrev aOm:FuncId:=130
theorem cNf:Ent Tryz.prog aOm:=aU func130 rfl kR
theorem cNg:Tryz.prog.funcs[aOm]? =some Tryz.f130:=func130
theorem cCa (x:Sl Int) (i:Nat):Ctr Tryz.prog aOm [false,true] [.c (iC i),.c (.p 0 0)] (KpS.t x).B (λ_:Unit=>⟨pC (¬qF x i),(KpS.t x).B,True⟩):=
 aX gT cNf cNg rfl rfl rfl bL (ClB.cons (λh=>by cases h) (eT rfl)) (aA gT mxd ⟨_,rfl,[1],bIo x i,rfl,rfl,rfl,λ_ _=>⟨(),trivial,fH mD ⟨rfl,rfl⟩ bL (aB rfl (aB rfl aZ)) rfl (ClB.cons (λh=>by cases h) (eT rfl))⟩⟩)
def mJ (P:Nat->Prop) [DecidablePred P]:Nat->Nat
 |0=>0
 |n+1=>mJ P n+if P n then 1 else 0
section cnt
variable {P Q:Nat->Prop} [DecidablePred P] [DecidablePred Q]
theorem aKy:∀n,mJ P n<=n
 |0=>aI _
 |n+1=>by
  have:=aKy n
  show mJ P n+_<=_
  split<;>omega
theorem aHn (h:∀i,¬P i):∀n,mJ P n=0
 |0=>rfl
 |n+1=>by
  show mJ P n+_=0
  rw[aHn h n,if_neg (h n)]
theorem aOn (h:∀i,P i->Q i):∀n,mJ P n<=mJ Q n
 |0=>aI _
 |n+1=>by
  have:=aOn h n
  show mJ P n+_<=mJ Q n+_
  by_cases hp:P n
  ·rw[if_pos hp,if_pos (h n hp)];omega
  rw[if_neg hp];omega
theorem aCb {m:Nat}:∀{n:Nat},m<=n->mJ P m<=mJ P n
 |0,h=>by rw[Nat.le_zero.1 h];exact aI _
 |n+1,h=>by
  rcases cM h with h|rfl
  ·exact aJ (aCb (cV h)) (uL _ _)
  exact aI _
theorem aKz {m n:Nat} (hm:m<n) (h:P m):mJ P m<mJ P n:=by
 have h1:=aCb (P:=P) (m:=m+1) (n:=n) hm
 have h2:mJ P (m+1)=mJ P m+1:=by show mJ P m+_=_;rw[if_pos h]
 omega
end cnt
section rk
variable (s:Nat->Nat)
theorem uJ (x:Nat):∀n,mJ (λk=>s k<x) n+mJ (λk=>s k=x) n=mJ (λk=>s k<x+1) n
 |0=>rfl
 |n+1=>by
  have:=uJ x n
  show(mJ _ n+_)+(mJ _ n+_)=mJ _ n+_
  rcases eS (s n) x with h|h|h
  ·rw[if_pos h,if_neg oM,if_pos oM];omega
  ·rw[if_neg oM,if_pos h,if_pos oM];omega
  rw[if_neg oM,if_neg oM,if_neg oM];omega
def rkN (a i:Nat):Nat:=mJ (λk=>s k<s i) a+mJ (λk=>s k=s i) i
theorem bIp {a i:Nat} (hi:i<a):rkN s a i<a:=by
 have h1:=aKz (P:=λk=>s k=s i) hi rfl
 have h2:=uJ s (s i) a
 have h3:=aKy (P:=λk=>s k<s i+1) a
 unfold rkN;omega
theorem aLa {a i j:Nat} (hj:j<a) (hi:i<a) (h:s i<s j\/(s i=s j/\i<j)):rkN s a i<rkN s a j:=by
 rcases h with h|⟨h,h2⟩
 ·have h1:=aKz (P:=λk=>s k=s i) hi rfl
  have h2:=uJ s (s i) a
  have h3:=aOn (P:=λk=>s k<s i+1) (Q:=λk=>s k<s j) (λk hk=>by omega) a
  unfold rkN;omega
 have h1:=aKz (P:=λk=>s k=s i) h2 rfl
 unfold rkN
 rw[<-h];omega
theorem aWi {a i j:Nat} (hi:i<a) (hj:j<a) (h:rkN s a i=rkN s a j):i=j:=by
 rcases eS (s i) (s j) with h1|h1|h1
 ·have:=aLa s hj hi (.inl h1);omega
 ·rcases eS i j with h2|h2|h2
  ·have:=aLa s hj hi (.inr ⟨h1,h2⟩);omega
  ·exact h2
  have:=aLa s hi hj (.inr ⟨h1.symm,h2⟩);omega
 have:=aLa s hi hj (.inl h1);omega
theorem cCb (a:Nat):PmL (nL a (rkN s a)) a:=by
 have e:∀i,i<a->(nL a (rkN s a)).getD i 0=(rkN s a i:Nat):=λi hi=>by unfold nL;simp[hi]
 exact⟨by unfold nL;simp,λi hi=>⟨rkN s a i,e i hi,bIp s hi⟩,λi j hi hj h=>by
  rw[e i hi,e j hj] at h
  exact aWi s hi hj oM⟩
end rk
def f1N (s:Nat->Nat) (i:Nat):Nat->Nat
 |0=>0
 |x+1=>mJ (λk=>s k=x) i
def f2N (s:Nat->Nat) (a k x:Nat):Nat:=if x<=k then mJ (λl=>s l<x) a else f1N s a x
def f3N (s:Nat->Nat) (a i x:Nat):Nat:=mJ (λl=>s l<x) a+mJ (λl=>s l=x) i
abbrev iR (n:Nat) (f:Nat->Nat):List CV:=dR n λj=>iC (f j:Nat)
theorem zF {n:Nat} {f:Nat->Nat}:∀c∈iR n f,fM c=true:=aY λ_ _=>rfl
abbrev aSq (m:MatM) (b:Nat) (f:Nat->Nat):BL:=[(24,0,m.C),(3,1,iR (b+2) f)]
abbrev bPk (m:MatM) (a b:Nat) (f r:Nat->Nat):BL:=[(24,0,m.C),(3,1,iR (b+2) f),(3,1,iR a r)]
theorem aLb {m:MatM} {b:Nat} {f:Nat->Nat}:scB 2 (aSq m b f):=aB rfl (aB (bU zF) aZ)
theorem bIq {m:MatM} {a b:Nat} {f r:Nat->Nat}:scB 3 (bPk m a b f r):=aB rfl (aB (bU zF) (aB (bU zF) aZ))
abbrev cCc (m:MatM) (b i:Nat):List (Nat×DV):=[(21,.c (iC i)),(1,.c (.p 0 0)),(3,.c (.s 1 (b+2))),(19,.c (mI m.d)),(20,.c (iC (m.d.l.length:Nat)))]
abbrev cCd (b k:Nat):List (Nat×DV):=[(37,.c (iC k)),(1,.c (.p 0 0)),(3,.c (.s 1 (b+2))),(36,.c (iC (b+1:Nat)))]
abbrev cCe (m:MatM) (a b i:Nat):List (Nat×DV):=[(58,.c (iC i)),(1,.c (.p 0 0)),(3,.c (.s 1 (b+2))),(7,.c (.s 2 a)),(56,.c (mI m.d)),(57,.c (iC (m.d.l.length:Nat)))]
theorem aLc {n j v:Nat} {f g:Nat->Nat} (h:j<n) (hg:∀i,i<n->g i=if i=j then v else f i):lZ (iR n f) (j*1) [iC (v:Nat)]=iR n g/\j*1+1<=(iR n f).length:=gU h λi hi=>by
 rw[hg i hi]
 by_cases e:i=j
 ·rw[if_pos e,if_pos e]
 rw[if_neg e,if_neg e]
theorem wiN {z:Int} {n:Nat} (h:z=(n:Nat)) (hn:n<=9223372036854775807):(n:Int)=IntKind.i64.wrap z:=by
 rw[h]
 exact wi (h:=⟨rfl,by omega,by omega⟩)
theorem ziR {n:Nat} {f:Nat->Nat} {T:Nat} (h:∀x,x<n->f x=0):((T,1,List.replicate n (iC 0)):TypeId×Nat×List CV)=(T,1,iR n f):=by
 rw[aAl]
 exact congrArg (λl=>((T,1,l):TypeId×Nat×List CV)) (gH λx hx=>by rw[h x hx];rfl)
def rIN (s:Nat->Nat) (a i j:Nat):Nat:=if j<i then rkN s a j else 0
structure SpF (M:Nat->List En) (a b:Nat) (d:Sl (Sl EntM)) (rs:Nat->List En) (rk:Nat->Nat):Prop where
 ln:d.l.length=b
 row:∀j,j<b->Ek (d.l.getD j cO).l (rs j)
 ok:∀j,j<b->VOk (rs j) (a:Nat)
 lt:∀i,i<a->rk i<a
 inj:∀i j,i<a->j<a->rk i=rk j->i=j
 get:∀i j,i<a->j<b->Vm.get (rs j) (rk i:Nat)=Vm.get (M i) (j:Nat)
 rb:∀B,1<=B->rbM M a B->∀j,j<b->rbE (rs j) B
abbrev cCf (a b:Nat) (P:Sl Int) (k:Nat):List (Nat×DV):=[(87,.c (iC k)),(85,.c (.s 3 b)),(86,.c (iC b)),(7,.c (cI P)),(10,.c (.p 4 0))]
abbrev bPl (m:MatM) (a b:Nat) (f:Nat->Nat) (Y:Nat->Sl EntM):BL:=[(24,0,m.C),(3,1,iR (b+2) f),(3,1,[]),(65,1,dR b λj=>cC (Y j)),(24,0,[iC b,iC a,.s 3 b])]
theorem bIr {m:MatM} {a b:Nat} {f:Nat->Nat} {Y:Nat->Sl EntM}:scB 5 (bPl m a b f Y):=aB rfl (aB (bU zF) (aB rfl (aB (bU (aY λ_ _=>rfl)) (aB rfl aZ))))
abbrev cCg:FuncId:=126
theorem cTp:Ent Tryz.prog cCg:=aU func126 rfl kR
theorem cTq:Tryz.prog.funcs[cCg]? =some Tryz.f126:=func126
theorem cNh (m:MatM) {M:Nat->List En} {a b B:Nat} (h:Mr m M a b B) (hb:rbM M a B) (h1:1<=B) (hB:B<=4398046511104) (ha:a<=12) (hbn:b<=4096):Ctr Tryz.prog cCg [] [.a m.C] [] (λg:Sl (Sl EntM)×(Nat->List En)×(Nat->Nat)=>⟨.c (mI g.1),[],SpF M a b g.1 g.2.1 g.2.2⟩):=by
 obtain⟨mr,mc,md⟩:=m
 obtain rfl:mr=(a:Nat):=h.r
 obtain rfl:mc=(b:Nat):=h.c
 have hl:md.l.length=a:=h.ln
 obtain⟨s,hs⟩:∃s:Nat->Nat,s=λi=>(M i).length:=⟨_,rfl⟩
 have hsz:∀i,i<a->(md.l.getD i cO).l.length=s i:=λi hi=>by rw[hs];exact(h.row i hi).ln
 have hsb:∀i,i<a->s i<=b:=λi hi=>by rw[hs];exact(h.ok i hi).2
 have hcn:∀(P:Nat->Prop) [DecidablePred P] (i:Nat),i<=a->mJ P i<=12:=λP _ i hi=>aJ (aKy i) oM
 refine aX gT cTp cTq rfl rfl rfl bL aS (aA gT mxd ⟨(b:Int)+2,wi (h:=⟨rfl,by show _<=(b:Int)+2;omega,by show(b:Int)+2<=_;omega⟩),b+2,⟨by show(b:Int)+2=(b+2:Nat);omega,by show(b:Int)+2=(b+2:Nat);omega,by show 8*_<=_;omega,by simp only[maxLen];omega⟩,?_⟩)
 refine cE (λ_=>true) (λi:Nat=>cCc ⟨a,b,md⟩ b i) (λi=>aSq ⟨a,b,md⟩ b (f1N s i)) (λ_=>[]) (λi=>i<=a) (λi=>a-i) λhM=>⟨bF hM (chg:=λi:Nat=>cCc ⟨a,b,md⟩ b i) (bls:=λi=>aSq ⟨a,b,md⟩ b (f1N s i)) (fls:=λ_=>[]) 0 (aC _) rfl ⟨rfl,?_⟩ trivial ⟨rfl,rfl,rfl,rfl,rfl⟩ bL aLb rfl,λi hi=>aA gT mxd ⟨λh2=>aA gT mxd ?_,λh2=>aA gT mxd ?_⟩⟩
 ·refine ziR λx hx=>?_
  cases x<;>rfl
 ·replace h2:(i:Int)<(md.l.length:Nat):=h2
  have hia:i<a:=by omega
  have hsi:=hsb i hia
  have hsz':=hsz i hia
  have ix:s i+1<b+2:=by omega
  have c1:=hcn (λk=>s k=s i) i hi
  refine⟨i,⟨rfl,show i<md.l.length by omega⟩,(s i+1:Nat),wiN (by show(((md.l.getD i cO).l.length:Nat):Int)+1=_;rw[hsz'];rfl) oM,s i+1,⟨rfl,ix,cS ix⟩,_,eG ix,(f1N s i (s i+1)+1:Nat),wiN rfl (by show mJ (λk=>s k=s i) i+1<=_;omega),s i+1,⟨rfl,ix,cS ix⟩,_,aLc (v:=f1N s i (s i+1)+1) (g:=f1N s (i+1)) ix (λx hx=>?_),(i+1:Nat),wi,bF hM (chg:=λi:Nat=>cCc ⟨a,b,md⟩ b i) (bls:=λi=>aSq ⟨a,b,md⟩ b (f1N s i)) (fls:=λ_=>[]) (i+1) ⟨hia,show a-(i+1)<a-i by omega⟩ rfl ⟨rfl,rfl⟩ trivial ⟨rfl,rfl,rfl,rfl,rfl⟩ bL aLb rfl⟩
  cases x with
  |zero=>rw[if_neg oM];rfl
  |succ x=>
   show mJ (λk=>s k=x) i+(if s i=x then 1 else 0)=_
   by_cases e:s i=x
   ·rw[if_pos e,if_pos oM,e];rfl
   rw[if_neg e,if_neg oM];rfl
 replace h2:¬(i:Int)<(md.l.length:Nat):=h2
 obtain rfl:i=a:=by omega
 refine aA gT mxd ⟨(b+1:Nat),wiN rfl oM,?_⟩
 refine cE (λ_=>true) (λk:Nat=>cCd b k) (λk=>aSq ⟨i,b,md⟩ b (f2N s i k)) (λ_=>[]) (λk=>k<=b+1) (λk=>b+1-k) λhM=>⟨bF hM (chg:=λk:Nat=>cCd b k) (bls:=λk=>aSq ⟨i,b,md⟩ b (f2N s i k)) (fls:=λ_=>[]) 0 (aC _) rfl ⟨rfl,?_⟩ trivial ⟨rfl,rfl,rfl,rfl⟩ bL aLb rfl,λk hk=>aA gT mxd ⟨λh3=>aA gT mxd ?_,λh3=>aA gT mxd ?_⟩⟩
 ·refine congrArg (λl=>((3,1,l):TypeId×Nat×List CV)) (gH λx hx=>?_)
  cases x with
  |zero=>show iC (0:Nat)=iC (f2N s i 0 0:Nat);unfold f2N;rw[if_pos (aI 0),aHn (λl=>by omega) i]
  |succ x=>show iC (_:Nat)=iC (f2N s i 0 (x+1):Nat);unfold f2N;rw[if_neg oM]
 ·replace h3:(k:Int)<(b+1:Nat):=h3
  have hkb:k<b+1:=by omega
  have ix:k+1<b+2:=by omega
  have ix0:k<b+2:=by omega
  have v0:f2N s i k k=mJ (λl=>s l<k) i:=by unfold f2N;rw[if_pos (aI k)]
  have v1:f2N s i k (k+1)=mJ (λl=>s l=k) i:=by unfold f2N;rw[if_neg oM];rfl
  have v2:f2N s i k (k+1)+f2N s i k k=mJ (λl=>s l<k+1) i:=by rw[v0,v1,gP];exact uJ s k i
  have v3:=hcn (λl=>s l<k+1) i (aI i)
  refine⟨.seq [(0,false),(1,false),(2,false),(3,false),(4,false),(5,false),(6,false),(7,false),(8,false),(9,false),(10,false),(11,true)],by kernel_rfl,(k+1:Nat),wiN rfl oM,k+1,⟨rfl,ix,cS ix⟩,_,eG ix,k,⟨rfl,ix0,cS ix0⟩,_,eG ix0,(f2N s i k (k+1)+f2N s i k k:Nat),wiN rfl oM,k+1,⟨rfl,ix,cS ix⟩,_,aLc (v:=f2N s i k (k+1)+f2N s i k k) (g:=f2N s i (k+1)) ix (λx hx=>?_),(k+1:Nat),wi,bF hM (chg:=λk:Nat=>cCd b k) (bls:=λk=>aSq ⟨i,b,md⟩ b (f2N s i k)) (fls:=λ_=>[]) (k+1) ⟨hkb,show b+1-(k+1)<b+1-k by omega⟩ rfl ⟨rfl,rfl⟩ trivial ⟨rfl,rfl,rfl,rfl⟩ bL aLb rfl⟩
  by_cases e:x=k+1
  ·rw[if_pos e,v2,e];unfold f2N;rw[if_pos (aI _)]
  rw[if_neg e];unfold f2N
  by_cases e2:x<=k
  ·rw[if_pos e2,if_pos oM]
  rw[if_neg e2,if_neg oM]
 replace h3:¬(k:Int)<(b+1:Nat):=h3
 obtain rfl:k=b+1:=by omega
 obtain⟨a,ha'⟩:∃a,a=i:=⟨_,rfl⟩
 subst ha'
 refine aA gT mxd ⟨a,⟨rfl,rfl,by show 8*_<=_;omega,by simp only[maxLen];omega⟩,?_⟩
 refine cE (λ_=>true) (λj:Nat=>cCe ⟨a,b,md⟩ a b j) (λj=>bPk ⟨a,b,md⟩ a b (f3N s a j) (rIN s a j)) (λ_=>[]) (λj=>j<=a) (λj=>a-j) λhM=>⟨bF hM (chg:=λj:Nat=>cCe ⟨a,b,md⟩ a b j) (bls:=λj=>bPk ⟨a,b,md⟩ a b (f3N s a j) (rIN s a j)) (fls:=λ_=>[]) 0 (aC _) rfl ⟨rfl,?_,?_⟩ trivial ⟨rfl,rfl,rfl,rfl,rfl,rfl⟩ bL bIq rfl,λj hj=>aA gT mxd ⟨λh4=>aA gT mxd ?_,λh4=>aA gT mxd ?_⟩⟩
 ·refine congrArg (λl=>((3,1,l):TypeId×Nat×List CV)) (gH λx hx=>?_)
  show iC (f2N s a (b+1) x:Nat)=iC (f3N s a 0 x:Nat)
  unfold f2N f3N
  rw[if_pos oM];rfl
 ·exact ziR λx hx=>if_neg (aD _)
 ·replace h4:(j:Int)<(md.l.length:Nat):=h4
  have hja:j<a:=by omega
  have hsj:=hsb j hja
  have hsz':=hsz j hja
  have ix:s j<b+2:=by omega
  have c1:=hcn (λk=>s k<s j+1) a (aI a)
  have c2:=uJ s (s j) a
  have c3:=aCb (P:=λk=>s k=s j) (eX hja)
  have hz:((((md.l.getD j cO).l.length:Nat):Int))=(s j:Nat):=by rw[hsz']
  refine⟨j,⟨rfl,show j<md.l.length by omega⟩,s j,⟨hz,ix,cS ix⟩,_,eG ix,j,⟨rfl,hja,cS hja⟩,_,aLc (v:=f3N s a j (s j)) (g:=rIN s a (j+1)) hja (λx hx=>?_),s j,⟨hz,ix,cS ix⟩,_,eG ix,(f3N s a j (s j)+1:Nat),wiN rfl (by show mJ _ a+mJ _ j+1<=_;omega),s j,⟨hz,ix,cS ix⟩,_,aLc (v:=f3N s a j (s j)+1) (g:=f3N s a (j+1)) ix (λx hx=>?_),(j+1:Nat),wi,bF hM (chg:=λj:Nat=>cCe ⟨a,b,md⟩ a b j) (bls:=λj=>bPk ⟨a,b,md⟩ a b (f3N s a j) (rIN s a j)) (fls:=λ_=>[]) (j+1) ⟨hja,show a-(j+1)<a-j by omega⟩ rfl ⟨rfl,rfl,rfl⟩ trivial ⟨rfl,rfl,rfl,rfl,rfl,rfl⟩ bL bIq rfl⟩
  ·unfold rIN
   by_cases e:x=j
   ·rw[if_pos e,if_pos oM,e];rfl
   rw[if_neg e]
   by_cases e2:x<j
   ·rw[if_pos e2,if_pos oM]
   rw[if_neg e2,if_neg oM]
  show mJ _ a+(mJ (λk=>s k=x) j+if s j=x then 1 else 0)=_
  by_cases e:x=s j
  ·rw[if_pos e,if_pos e.symm,e];rfl
  rw[if_neg e,if_neg (gB e)];rfl
 replace h4:¬(j:Int)<(md.l.length:Nat):=h4
 obtain rfl:a=j:=by omega
 have hri:iR a (rIN s a a)=iR a (rkN s a):=gH λx hx=>by unfold rIN;rw[if_pos hx]
 have hPm:PmL (nL a (rIN s a a)) a:=by
  rw[show nL a (rIN s a a)=nL a (rkN s a) from dQ λx hx=>by unfold rIN;rw[if_pos (cL.1 hx)]]
  exact cCb s a
 show Sd _ _ _ _ _ _
 refine rR 7 2 (λj=>[iC ((nL a (rIN s a a)).getD j 0)]) rfl rfl (λj hj=>aVx j hj) (by rw[dK,bN]) bL zF bL λPA pc _ _=>⟨λc hc=>dB (zF c hc),aA gT mxd ⟨[],cJb _ h hB oM hbn,rfl,rfl,rfl,λT hT=>?_⟩⟩
 replace hT:∀j,j<b->Ek (T j).l (trM M a j):=hT
 obtain⟨P,hPe⟩:∃P:Sl Int,P=⟨PA,pc,nL a (rIN s a a)⟩:=⟨_,rfl⟩
 have hPs:CV.r PA a pc 1 (λj=>[iC ((nL a (rIN s a a)).getD j 0)])=cI P:=by rw[hPe];unfold cI Sl.R;rw[hPm.ln]
 have hPl:PmL P.l a:=by rw[hPe];exact hPm
 have hPat:∀i,i<a->P.l.getD i 0=(rkN s a i:Nat):=λi hi=>by rw[hPe];show(nL a (rIN s a a)).getD i 0=_;unfold nL rIN;simp[hi]
 refine cE (λ_=>true) (λg:Nat×(Nat->Sl EntM)×(Nat->List En)=>cCf a b P g.1) (λg=>bPl ⟨a,b,md⟩ a b (f3N s a a) g.2.1) (λ_=>[]) (λg=>g.1<=b/\(∀j,j<g.1->Ek (g.2.1 j).l (g.2.2 j)/\Asc (g.2.2 j)/\(g.2.2 j).Perm ((trM M a j).map (rnE P.l)))/\∀j,g.1<=j->j<b->Ek (g.2.1 j).l (trM M a j)) (λg=>b-g.1) λhM=>⟨bF hM (chg:=λg:Nat×(Nat->Sl EntM)×(Nat->List En)=>cCf a b P g.1) (bls:=λg=>bPl ⟨a,b,md⟩ a b (f3N s a a) g.2.1) (fls:=λ_=>[]) (0,T,λ_=>[]) ⟨aC _,λj hj=>absurd hj (aD _),λj _ hj=>hT j hj⟩ rfl ⟨rfl,rfl,rfl,rfl,rfl⟩ trivial ⟨rfl,rfl,rfl,hPs,rfl⟩ bL bIr rfl,λ⟨k,Y,rs⟩ ⟨hk,hd,ho⟩=>aA gT mxd ⟨λh5=>aA gT mxd ?_,λh5=>aA gT mxd ?_⟩⟩
 all_goals
  replace hk:k<=b:=hk
  replace hd:∀j,j<k->Ek (Y j).l (rs j)/\Asc (rs j)/\(rs j).Perm ((trM M a j).map (rnE P.l)):=hd
  replace ho:∀j,k<=j->j<b->Ek (Y j).l (trM M a j):=ho
 ·replace h5:(k:Int)<(b:Nat):=h5
  have hkb:k<b:=by omega
  have hv:=aBq (qs:=aGg M a k) a
  have hrt:=aKk (j:=k) h1 hb λi hi=>(h.ok i hi).1.1
  refine⟨k,⟨rfl,hkb,cS hkb⟩,_,eG hkb,.seq [(0,false),(1,false),(2,false),(3,false),(4,false),(5,false),(6,false),(7,false),(8,false),(9,false),(10,true)],by kernel_rfl,[],bHd (Y k) P (ho k (aI k) hkb) hrt h1 hB hv.1 ha hPl,rfl,rfl,rfl,λy ⟨r,hy⟩=>⟨k,⟨rfl,hkb,cS hkb⟩,_,gU (c:=cC y) (Q:=λj=>cC (upd Y k y j)) hkb (λj _=>?_),(k+1:Nat),wi,bF hM (chg:=λg:Nat×(Nat->Sl EntM)×(Nat->List En)=>cCf a b P g.1) (bls:=λg=>bPl ⟨a,b,md⟩ a b (f3N s a a) g.2.1) (fls:=λ_=>[]) (k+1,upd Y k y,upd rs k r) ⟨⟨hkb,λj hj=>?_,λj hj hjb=>?_⟩,show b-(k+1)<b-k by omega⟩ rfl ⟨rfl,rfl,rfl,rfl,rfl⟩ trivial ⟨rfl,rfl,rfl,rfl,rfl⟩ bL bIr rfl⟩⟩
  ·by_cases e:j=k
   ·subst e;rw[if_pos rfl,bH]
   rw[if_neg e,bA e]
  ·show Ek (upd Y k y j).l (upd rs k r j)/\Asc (upd rs k r j)/\(upd rs k r j).Perm _
   by_cases e:j=k
   ·subst e;rw[bH,bH];exact hy
   rw[bA e,bA e];exact hd j (by have:j<k+1:=hj;omega)
  show Ek (upd Y k y j).l _
  have:k+1<=j:=hj
  rw[bA oM];exact ho j oM hjb
 replace h5:¬(k:Int)<(b:Nat):=h5
 obtain rfl:k=b:=by omega
 show Sd _ _ _ _ _ _
 refine kU tSd 3 rfl bL (aY λ_ _=>rfl) bL rfl λA2 c2=>⟨_,mA kB zF,_,rfl,?_⟩
 refine jQ tSd 4 0 [iC k,iC a,mI ⟨A2.map λb=>⟨b,0,none⟩,c2,kN Y k⟩] rfl rfl rfl rfl (vK (k0:=2) rfl vL) (aA gT mxd ⟨(⟨A2.map λb=>⟨b,0,none⟩,c2,kN Y k⟩,rs,rkN s a),?_,aM ?_ rfl trivial⟩)
 ·have hvk:∀j,j<k->VOk (rs j) (a:Nat):=λj hj=>aRw hPl (aBq a).1 (hd j hj).2.1 (hd j hj).2.2
  refine⟨nM,λj hj=>?_,hvk,λi hi=>bIp s hi,λi j hi hj he=>aWi s hi hj he,λi j hi hj=>?_,λB' hB1 hbB j hj e he=>?_⟩
  ·show Ek ((kN Y k).getD j cO).l _
   rw[qD hj];exact(hd j hj).1
  ·rw[Vm.get_perm (hd j hj).2.2,<-hPat i hi]
   exact(aRv (es:=trM M a j) hPl hi λe he=>⟨((aBq a).1.2 e he).1,((aBq a).1.2 e he).2.1⟩).trans (aVf hi)
  obtain⟨e',h6,rfl⟩:=cD.1 ((hd j hj).2.2.subset he)
  exact aKk hB1 hbB (λi hi=>(h.ok i hi).1.1) e' h6
 show CV.r _ _ _ _ _=_
 unfold mI Sl.R
 rw[nM]
structure EcS (a t B:Nat) (ws:Nat->Sl EntM) (es:Nat->List En) (x:Nat->Nat):Prop where
 row:∀i,i<t->Ek (ws i).l (es i)
 ok:∀i,i<t->VOk (es i) (a:Nat)
 rb:∀i,i<t->rbE (es i) B
 ne:∀i,i<t->0<(es i).length
 ld:∀i,i<t->((es i).getD 0 default).1=(x i:Nat)
theorem aFu {es:List En} {n:Int} (h:VOk es n) (hl:0<es.length):Vm.get es (es.getD 0 default).1=(es.getD 0 default).2/\(es.getD 0 default).2≠0/\(0<=(es.getD 0 default).1/\(es.getD 0 default).1<n)/\∀z,z<(es.getD 0 default).1->Vm.get es z=0:=by
 have hm:=fN hl
 refine⟨rF h.1 hm,(h.2 _ hm).2.2,⟨(h.2 _ hm).1,(h.2 _ hm).2.1⟩,λz hz=>Vm.get_none λe he h2=>?_⟩
 cases es with
 |nil=>cases he
 |cons e0 es=>
  have h0:((e0::es).getD 0 default)=e0:=rfl
  rw[h0] at hz
  rcases bW.1 he with rfl|h3
  ·omega
  have:=(sE.1 h.1).1 e h3;omega
theorem bIs {r w rs:List En} {n:Int} (hr:VOk r n) (hrl:0<r.length) (hw:VOk w n) (hwl:0<w.length) (hx:(w.getD 0 default).1=(r.getD 0 default).1) (hm:MgR (λa b=>a+ -((r.getD 0 default).2/(w.getD 0 default).2)*b) r w rs):VOk rs n/\∀e∈rs,(r.getD 0 default).1<e.1:=by
 have hv:=aRs hm hr hw
 refine⟨hv,λe he=>aT λhn=>?_⟩
 have h1:=rF hv.1 he
 have h2:=(hv.2 e he).2.2
 obtain⟨r1,r2,_,r4⟩:=aFu hr hrl
 obtain⟨w1,w2,_,w4⟩:=aFu hw hwl
 have hg:=hm.g e.1
 rw[h1] at hg
 refine h2 (hg.trans ?_)
 show Vm.get r e.1+ -((r.getD 0 default).2/(w.getD 0 default).2)*Vm.get w e.1=0
 rcases Int.lt_or_eq_of_le (pL.1 hn) with h3|h3
 ·rw[r4 _ h3,w4 _ (by rw[hx];exact h3),bZ,bJ]
 rw[h3,r1,<-hx,w1]
 have:-((r.getD 0 default).2/(w.getD 0 default).2)*(w.getD 0 default).2=-((r.getD 0 default).2/(w.getD 0 default).2*(w.getD 0 default).2):=by grind
 rw[this,sJ w2];grind
theorem cCh {q:Rat} {B:Nat} (h1:1<=B) (h:rb q B):rb q⁻¹ B:=by
 have e1:=yT (a:=(q.den:Int)) (b:=q.num)
 have e2:=yU (a:=(q.den:Int)) (b:=q.num)
 rw[<-Rat.inv_def] at e1 e2
 simp only[fC,eN] at e1 e2
 exact⟨aJ e1 h.2,by have:=h.1;omega⟩
structure RdG where
 v:Sl EntM
 r:List En
 c:Nat
 cf:Nat->Rat
structure RdI (a t B:Nat) (es:Nat->List En) (v0:List En) (g:RdG):Prop where
 v:Ek g.v.l g.r
 ok:VOk g.r (a:Nat)
 c:g.c<=a
 lo:∀e∈g.r,(g.c:Int)<=e.1
 rb:rbE g.r (bd B g.c)
 sum:∀z,Vm.get g.r z=Vm.get v0 z+cG (λk=>Vm.get (es k) z*g.cf k) t
def cTr:Ord:=.joinX [] [2000,2001,2002,3,2004,2005,2006,7] (.alt 8 (trS [2009,2010,2011,12,1013,2014]) (.alt 12 (trS [8,2009,2010,2011,1013,2014]) .nil))
abbrev rdS (b:Nat) (v:Sl EntM):List (Nat×DV):=[(1,.c (cC v)),(0,.c (.v (.map (some b))))]
abbrev cCi:FuncId:=127
theorem cTs:Ent Tryz.prog cCi:=aU func127 rfl kR
theorem cTt:Tryz.prog.funcs[cCi]? =some Tryz.f127:=func127
theorem cNi (b:Nat) (G:Nat->List CV) (v:Sl EntM) {a t B:Nat} {ws:Nat->Sl EntM} {es:Nat->List En} {x:Nat->Nat} {v0:List En} (hG:G 0=kvL x (λi=>cC (ws i)) t) (h:EcS a t B ws es x) (hv:Ek v.l v0) (hv0:VOk v0 (a:Nat)) (hb:rbE v0 B) (h1:1<=B) (hB:bd B a<=4398046511104) (ha:a<=4096):CtrF Tryz.prog cCi [] [.c (.v (.map (some b))),.c (cC v)] [] [mpF b G] (λg:RdG=>⟨.c (cC g.v),[],[mpF b G],RdI a t B es v0 g/\(g.r=[]\/∀i,i<t->((x i:Nat):Int)≠(g.r.getD 0 default).1)⟩):=by
 have hB0:B<=4398046511104:=aJ (kY (aC a)) hB
 refine nY gT cTs cTt rfl rfl rfl bL aS (aA gT mxd ?_)
 refine cE (λ_=>true) (λg:RdG=>rdS b g.v) (λ_=>[]) (λ_=>[mpF b G]) (λg=>RdI a t B es v0 g) (λg=>a+1-g.c) λhM=>⟨bF hM (chg:=λg:RdG=>rdS b g.v) (bls:=λ_=>[]) (fls:=λ_=>[mpF b G]) ⟨v,v0,0,λ_=>0⟩ ⟨hv,hv0,aC _,λe he=>(hv0.2 e he).1,hb,λz=>?_⟩ rfl trivial ⟨rfl,trivial⟩ ⟨rfl,rfl⟩ bL aZ rfl,λg hI=>aA gT mxd ⟨λh2=>aA gT mxd ?_,λh2=>aA gT mxd ?_⟩⟩
 ·rw[fP λk _=>bZ _,bJ]
 ·replace h2:(0:Int)<(g.v.l.length:Nat):=h2
  have hln:=hI.v.ln
  have hrl:0<g.r.length:=by omega
  obtain⟨r1,r2,r3,r4⟩:=aFu hI.ok hrl
  have hi0:=(hI.v.e 0 hrl)
  refine⟨0,⟨rfl,by omega⟩,0,0,⟨Nat.one_pos,rfl⟩,λi c' h4 h5=>?_,λh4=>?_⟩
  ·rw[show(mpF b G).get 0=kvL x (λi=>cC (ws i)) t from hG] at h4 h5
   obtain⟨hit,hz,hc'⟩:=aBz h4 h5
   subst hc'
   have hw:=h.row i hit
   have hwo:=h.ok i hit
   have hwl:=h.ne i hit
   have hwn:=hw.ln
   obtain⟨w1,w2,w3,w4⟩:=aFu hwo hwl
   have hj0:=hw.e 0 hwl
   have hlx:((es i).getD 0 default).1=(g.r.getD 0 default).1:=by rw[h.ld i hit,<-hz];exact hi0.1
   have hca:g.c<a:=by have:=hI.lo _ (fN hrl);omega
   have hbc:bd B (g.c+1)<=4398046511104:=aJ (kY hca) hB
   have hbs:bd B (g.c+1)=4*bd B g.c+1:=rfl
   have hb0:B<=bd B g.c:=kY (aC _)
   have hb1:=vO h1 g.c
   have h1':1<=bd B g.c:=hb1
   have rv:=hI.rb _ (fN hrl)
   have rw':=(h.rb i hit _ (fN hwl)).le hb0
   have rf:rb ((g.r.getD 0 default).2/((es i).getD 0 default).2) (bd B g.c+bd B g.c):=by rw[kG];exact fS rv (cCh h1' rw')
   have hwE:Ev (ws i).l (es i) (bd B g.c):=hw.ev λe he=>(h.rb i hit e he).le hb0
   have hwR:rbE (es i) (bd B g.c):=λe he=>(h.rb i hit e he).le hb0
   have hvE:=hI.v.ev hI.rb
   have hlr:=kO hI.ok
   have hlw:=kO hwo
   have hdv:=aRf (g.v.l.getD 0 default).v ((ws i).l.getD 0 default).v (Cr.rq hi0.2 (rv.le oM)) (Cr.rq hj0.2 (rw'.le oM)) w2
   refine⟨cTr,by kernel_rfl,RatM,λf=>⟨[(5,.c (cC (ws i))),(7,.c (.p 0 0)),(1,.c (cC g.v)),(0,.c (.v (.map (some b))))]++[],[],[(62,0,f.C)],[mpF b G]⟩,λf=>Cr f ((g.r.getD 0 default).2/((es i).getD 0 default).2),⟨0,⟨rfl,by omega⟩,0,⟨rfl,by omega⟩,?_⟩,λf hf=>?_⟩
   ·exact⟨⟨[],hdv,rfl,rfl,rfl,λf hf=>⟨rfl,rfl,bF hM (chg:=λ_:RatM=>[(5,.c (cC (ws i))),(7,.c (.p 0 0)),(1,.c (cC g.v)),(0,.c (.v (.map (some b))))]) (bls:=λf=>[(62,0,f.C)]) (fls:=λ_=>[mpF b G]) f hf rfl rfl ⟨rfl,trivial⟩ ⟨rfl,rfl,rfl,rfl⟩ bL (aB rfl aZ) rfl⟩⟩,rfl,[],hdv,rfl,rfl,rfl,λf hf=>⟨rfl,bF hM (chg:=λ_:RatM=>[(5,.c (cC (ws i))),(7,.c (.p 0 0)),(1,.c (cC g.v)),(0,.c (.v (.map (some b))))]) (bls:=λf=>[(62,0,f.C)]) (fls:=λ_=>[mpF b G]) f hf rfl rfl ⟨rfl,trivial⟩ ⟨rfl,rfl,rfl,rfl⟩ bL (aB rfl aZ) rfl⟩⟩
   replace hf:Cr f ((g.r.getD 0 default).2/((es i).getD 0 default).2):=hf
   refine⟨[],bEk f (Cr.rq hf (rf.le oM)),rfl,rfl,rfl,λn hn=>⟨[],bFc g.v (ws i) n hvE hwE hI.rb hwR hb1 (Cr.rq hn (vF rf)) (vF rf) oM hI.ok.1 hwo.1 oM oM,rfl,rfl,rfl,λy ⟨rs,hy,hm⟩=>bF hM (chg:=λg:RdG=>rdS b g.v) (bls:=λ_=>[]) (fls:=λ_=>[mpF b G]) ⟨y,rs,g.c+1,upd g.cf i (g.cf i+ -((g.r.getD 0 default).2/((es i).getD 0 default).2))⟩ ⟨?_,show a+1-(g.c+1)<a+1-g.c by omega⟩ rfl trivial ⟨rfl,trivial⟩ ⟨rfl,rfl⟩ bL aZ rfl⟩⟩
   obtain⟨s1,s2⟩:=bIs hI.ok hrl hwo hwl hlx hm
   refine⟨hy,s1,hca,λe he=>?_,λe he=>?_,λz=>?_⟩
   ·have:=s2 e he
    have:=hI.lo _ (fN hrl)
    show((g.c+1:Nat):Int)<=e.1
    omega
   ·exact(bRw hm hI.ok.1 hwo.1 hb1 hI.rb hwR (vF rf) e he).le (by show _<=bd B (g.c+1);omega)
   rw[hm.g z,hI.sum z,aFn hit]
   grind
  rw[show(mpF b G).get 0=kvL x (λi=>cC (ws i)) t from hG] at h4
  refine aA gT mxd ⟨g,⟨hI,.inr λi hi e=>?_⟩,jZ rfl trivial ⟨rfl,trivial⟩ bL aZ rfl aS⟩
  have h5:=aFr (x:=x) (V:=λi=>cC (ws i)) hi
  exact h4 i _ (h5.1.trans (congrArg (λz=>some (iC z)) (e.trans hi0.1.symm))) h5.2
 replace h2:¬(0:Int)<(g.v.l.length:Nat):=h2
 have hln:=hI.v.ln
 have hr0:g.r=[]:=bQ oM
 exact aA gT mxd ⟨g,⟨hI,.inl hr0⟩,jZ rfl trivial ⟨rfl,trivial⟩ bL aZ rfl aS⟩
theorem cCj (Q:Nat->Nat->Rat) (r c:Nat):∃E t pv,Ech Q E r c c t pv:=by
 have h:∀C,C<=c->∃E t pv,Ech Q E r c C t pv:=λC=>by
  induction C with
  |zero=>exact λ_=>⟨Q,0,λ_=>0,Ech.start _⟩
  |succ C ih=>
   intro hC
   obtain⟨E,t,pv,h⟩:=ih oM
   by_cases hk:∃k,t<=k/\k<r/\E k C≠0
   ·obtain⟨k,h1,h2,h3⟩:=hk
    exact⟨_,_,_,h.step h1 h2 h3⟩
   exact⟨E,t,pv,h.skip λi h1 h2=>aT λh3=>hk ⟨i,h1,h2,h3⟩⟩
 exact h c (aI c)
theorem aSr (Q:Nat->Nat->Rat) {r c:Nat} (h:r<c):∃x:Nat->Rat,(∃i,i<c/\x i≠0)/\Nul Q r c x:=by
 obtain⟨E,t,pv,he⟩:=cCj Q r c
 have:=he.tr
 exact aT λhn=>absurd (he.full.2 hn) oM
def Free (Q:Nat->Nat->Rat) (r c:Nat):Prop:=∀x,Nul Q r c x->∀i,i<c->x i=0
theorem Free.le {Q:Nat->Nat->Rat} {r c:Nat} (h:Free Q r c):c<=r:=aT λhn=>by
 obtain⟨x,⟨i,hi,hx⟩,h3⟩:=aSr Q (r:=r) (c:=c) oM
 exact hx (h x h3 i hi)
def Dep (Q:Nat->Nat->Rat) (r c j:Nat):Prop:=∃x:Nat->Rat,x j=1/\(∀i,j<i->x i=0)/\Nul Q r c x
structure Enm (P:Nat->Prop) (n m:Nat) (e:Nat->Nat):Prop where
 lt:∀k,k<m->e k<n
 mono:∀k l,k<l->l<m->e k<e l
 mem:∀k,k<m->P (e k)
 all:∀j,j<n->P j->∃k,k<m/\e k=j
theorem Enm.inj {P:Nat->Prop} {n m:Nat} {e:Nat->Nat} (h:Enm P n m e) {k l:Nat} (hk:k<m) (hl:l<m) (he:e k=e l):k=l:=by
 rcases eS k l with h1|h1|h1
 ·have:=h.mono k l h1 hl;omega
 ·exact h1
 have:=h.mono l k h1 hk;omega
def spr (m:Nat) (e:Nat->Nat) (y:Nat->Rat) (j:Nat):Rat:=cG (λl=>if e l=j then y l else 0) m
theorem aAu {m c:Nat} {e:Nat->Nat} {y f:Nat->Rat} (he:∀k,k<m->e k<c):cG (λj=>f j*spr m e y j) c=cG (λl=>f (e l)*y l) m:=by
 have h1:cG (λj=>f j*spr m e y j) c=cG (λj=>cG (λl=>f j*(if e l=j then y l else 0)) m) c:=bK λj _=>jK.symm
 rw[h1,pJ]
 refine bK λl hl=>?_
 rw[jJ (m:=e l) (he l hl) λj hj=>by rw[if_neg (gB hj),bZ],if_pos rfl]
theorem aLd {m:Nat} {e:Nat->Nat} {y:Nat->Rat} {k:Nat} (hk:k<m) (hi:∀l,l<m->e l=e k->l=k):spr m e y (e k)=y k:=by
 unfold spr
 have h1:cG (λl=>if e l=e k then y l else 0) m=cG (λl=>if l=k then y l else 0) m:=bK λl hl=>by
  by_cases h:e l=e k
  ·rw[if_pos h,if_pos (hi l hl h)]
  rw[if_neg h,if_neg λhh=>h (by rw[hh])]
 rw[h1,jJ (m:=k) hk λj hj=>if_neg hj,if_pos rfl]
theorem aSs {m:Nat} {e:Nat->Nat} {y:Nat->Rat} {j:Nat} (h:∀l,l<m->e l=j->y l=0):spr m e y j=0:=fP λl hl=>by
 by_cases h1:e l=j
 ·rw[if_pos h1];exact h l hl h1
 rw[if_neg h1]
theorem aWj {y:Nat->Rat}:∀{m:Nat},(∃k,k<m/\y k≠0)->∃k,k<m/\y k≠0/\∀l,k<l->l<m->y l=0
 |0,⟨k,hk,_⟩=>absurd hk (aD _)
 |m+1,⟨k,hk,hy⟩=>by
  by_cases h:y m=0
  ·have hkm:k<m:=by
    rcases cM (cV hk) with h1|h1
    ·exact h1
    rw[h1] at hy;exact absurd h hy
   obtain⟨k',h1,h2,h3⟩:=aWj ⟨k,hkm,hy⟩
   refine⟨k',by omega,h2,λl hl hlm=>?_⟩
   rcases cM (cV hlm) with h4|h4
   ·exact h3 l hl h4
   rw[h4];exact h
  exact⟨m,bE m,h,λl hl hlm=>by omega⟩
theorem cCk {Q:Nat->Nat->Rat} {r c m k:Nat} {e:Nat->Nat} {y:Nat->Rat} (he:∀k,k<m->e k<c) (hk:k<m) (hy:y k≠0) (hl:∀l,l<m->l≠k->y l≠0->e l<e k) (hi:∀l,l<m->e l=e k->l=k) (h:Nul (λi l=>Q i (e l)) r m y):Dep Q r c (e k):=by
 refine⟨spr m e λl=>(y k)⁻¹*y l,?_,λj hj=>aSs λl hlm hle=>?_,λi hir=>?_⟩
 ·rw[aLd hk hi];exact jP _ hy
 ·by_cases h0:y l=0
  ·rw[h0,bZ]
  by_cases h1:l=k
  ·subst h1;omega
  have:=hl l hlm h1 h0;omega
 rw[aAu he]
 have h1:cG (λl=>Q i (e l)*((y k)⁻¹*y l)) m=(y k)⁻¹*cG (λl=>Q i (e l)*y l) m:=by
  rw[<-jK];exact bK λl _=>by grind
 rw[h1,h i hir,bZ]
theorem Enm.free {Q:Nat->Nat->Rat} {r c m:Nat} {e:Nat->Nat} (h:Enm (λj=>¬Dep Q r c j) c m e):Free (λi k=>Q i (e k)) r m:=λy hy=>aT λhn=>by
 have hex:∃k,k<m/\y k≠0:=aT λh1=>hn λk hk=>aT λh2=>h1 ⟨k,hk,h2⟩
 obtain⟨k,h1,h2,h3⟩:=aWj hex
 refine h.mem k h1 (cCk h.lt h1 h2 (λl hl hlk hyl=>?_) (λl hl he=>h.inj hl h1 he) hy)
 rcases eS l k with h4|h4|h4
 ·exact h.mono l k h4 h1
 ·exact absurd h4 hlk
 exact absurd (h3 l h4 hl) hyl
theorem Enm.span {B:Nat->Nat->Rat} {m R t:Nat} {K:Nat->Nat} (h:Enm (λi=>¬Dep B m R i) R t K) {x:Nat->Rat} (hx:∀k,k<t->cG (λb=>B b (K k)*x b) m=0):∀i,i<R->cG (λb=>B b i*x b) m=0:=λi=>by
 induction i using Nat.strongRecOn with
 |ind i ih=>
  intro hi
  by_cases hd:Dep B m R i
  ·obtain⟨y,h1,h2,h3⟩:=hd
   have e1:cG (λl=>y l*cG (λb=>B b l*x b) m) R=0:=by
    have e2:cG (λl=>y l*cG (λb=>B b l*x b) m) R=cG (λl=>cG (λb=>y l*(B b l*x b)) m) R:=bK λl _=>jK.symm
    rw[e2,pJ]
    refine fP λb hb=>?_
    have e3:cG (λl=>y l*(B b l*x b)) R=x b*cG (λl=>B b l*y l) R:=by
     rw[<-jK];exact bK λl _=>by grind
    rw[e3,h3 b hb,bZ]
   have e4:cG (λl=>y l*cG (λb=>B b l*x b) m) R=cG (λl=>if l=i then cG (λb=>B b l*x b) m else 0) R:=bK λl hl=>by
    rcases eS l i with h4|h4|h4
    ·rw[ih l h4 hl,if_neg oM,bZ]
    ·rw[if_pos h4,h4,h1,kK]
    rw[h2 l h4,if_neg oM,dH]
   rw[e4,jJ (m:=i) hi λj hj=>if_neg hj,if_pos rfl] at e1
   exact e1
  obtain⟨k,hk,rfl⟩:=h.all i hi hd
  exact hx k hk
theorem Enm.square {B:Nat->Nat->Rat} {m R t:Nat} {K:Nat->Nat} (h:Enm (λi=>¬Dep B m R i) R t K) (hf:Free (λi b=>B b i) R m):t=m/\Free (λk b=>B b (K k)) t m:=by
 have h1:Free (λk b=>B b (K k)) t m:=λx hx=>hf x λi hi=>h.span hx i hi
 have h2:=h1.le
 have h3:=h.free.le
 exact⟨by omega,h1⟩
theorem Free.tr {S:Nat->Nat->Rat} {n:Nat} (h:Free S n n):Free (λi j=>S j i) n n:=λy hy k hk=>aT λhyk=>by
 obtain⟨n,rfl⟩:∃n',n=n'+1:=⟨n-1,by omega⟩
 obtain⟨x,⟨i,hi,hxi⟩,h3⟩:=aSr (λi=>S (skp k i)) (bE n)
 have hall:Nul S (n+1) (n+1) x:=by
  have e1:cG (λl=>y l*cG (λj=>S l j*x j) (n+1)) (n+1)=0:=by
   have e2:cG (λl=>y l*cG (λj=>S l j*x j) (n+1)) (n+1)=cG (λl=>cG (λj=>y l*(S l j*x j)) (n+1)) (n+1):=bK λl _=>jK.symm
   rw[e2,pJ]
   refine fP λj hj=>?_
   have e3:cG (λl=>y l*(S l j*x j)) (n+1)=x j*cG (λl=>S l j*y l) (n+1):=by
    rw[<-jK];exact bK λl _=>by grind
   rw[e3,hy j hj,bZ]
  rw[xF hk] at e1
  rw[fP (n:=n) λl hl=>by rw[h3 l hl,bZ],bJ] at e1
  have e5:cG (λj=>S k j*x j) (n+1)=0:=by
   rcases qS.1 e1 with h4|h4
   ·exact absurd h4 hyk
   exact h4
  intro l hl
  by_cases hlk:l=k
  ·rw[hlk];exact e5
  have:∃l',l'<n/\skp k l'=l:=by
   unfold skp
   by_cases h5:l<k
   ·exact⟨l,by omega,by split<;>omega⟩
   exact⟨l-1,by omega,by split<;>omega⟩
  obtain⟨l',h5,rfl⟩:=this
  exact h3 l' h5
 exact hxi (h x hall i hi)
theorem aYv {Q:Nat->Nat->Rat} {r m:Nat} {R0:Nat->Nat} (hR:∀k,k<m->R0 k<r) (h:Free (λk b=>Q (R0 k) b) m m):Free Q r m:=λx hx=>h x λk hk=>hx _ (hR k hk)
structure IdS (Q:Nat->Nat->Rat) (a b j t:Nat) (W:Nat->Nat->Rat) (x:Nat->Nat):Prop where
 lt:∀i,i<t->x i<a
 nz:∀i,i<t->W i (x i)≠0
 z:∀i,i<t->∀z,z<x i->W i z=0
 inj:∀i k,i<t->k<t->x i=x k->i=k
 A:∀i,i<t->∃y:Nat->Rat,(∀l,j<=l->y l=0)/\∀z,z<a->W i z=cG (λl=>Q z l*y l) b
 B:∀l,l<j->∃c:Nat->Rat,∀z,z<a->Q z l=cG (λi=>W i z*c i) t
theorem IdS.start {Q:Nat->Nat->Rat} {a b:Nat} {W:Nat->Nat->Rat} {x:Nat->Nat}:IdS Q a b 0 0 W x:=⟨λ_ h=>absurd h (aD _),λ_ h=>absurd h (aD _),λ_ h=>absurd h (aD _),λ_ _ h=>absurd h (aD _),λ_ h=>absurd h (aD _),λ_ h=>absurd h (aD _)⟩
section ids
variable {Q:Nat->Nat->Rat} {a b j t:Nat} {W:Nat->Nat->Rat} {x:Nat->Nat} (h:IdS Q a b j t W x)
include h in
theorem IdS.comb (c:Nat->Rat):∃y:Nat->Rat,(∀l,j<=l->y l=0)/\∀z,z<a->cG (λi=>W i z*c i) t=cG (λl=>Q z l*y l) b:=by
 have key:∀s,s<=t->∃y:Nat->Rat,(∀l,j<=l->y l=0)/\∀z,z<a->cG (λi=>W i z*c i) s=cG (λl=>Q z l*y l) b:=λs=>by
  induction s with
  |zero=>exact λ_=>⟨λ_=>0,λ_ _=>rfl,λz _=>(fP λl _=>bZ _).symm⟩
  |succ s ih=>
   intro hs
   obtain⟨y,h1,h2⟩:=ih oM
   obtain⟨y',h3,h4⟩:=h.A s oM
   refine⟨λl=>y l+c s*y' l,λl hl=>by show y l+c s*y' l=0;rw[h1 l hl,h3 l hl,bZ,bJ],λz hz=>?_⟩
   show cG (λi=>W i z*c i) s+W s z*c s=_
   rw[h2 z hz,h4 z hz]
   have e:cG (λl=>Q z l*(y l+c s*y' l)) b=cG (λl=>Q z l*y l+c s*(Q z l*y' l)) b:=bK λl _=>by grind
   rw[e,kD];grind
 exact key t (aI t)
include h in
theorem IdS.lead {r:Nat->Rat} {c:Nat->Rat} {z0:Nat} (hr:∀z,z<a->r z=cG (λi=>W i z*c i) t) (h0:z0<a) (hn:r z0≠0) (hz:∀z,z<z0->r z=0):∃i,i<t/\x i=z0:=by
 have hex:∃i,i<t/\c i≠0:=aT λhno=>hn (by
  rw[hr z0 h0]
  refine fP λi hi=>?_
  rw[aT λhc=>hno ⟨i,hi,hc⟩,bZ])
 have hmin:∀n,(∃i,i<t/\c i≠0/\x i<n)->∃i,i<t/\c i≠0/\∀k,k<t->c k≠0->x i<=x k:=λn=>by
  induction n with
  |zero=>exact λ⟨i,_,_,h3⟩=>absurd h3 (aD _)
  |succ n ih=>
   rintro⟨i,h1,h2,h3⟩
   by_cases e:∃k,k<t/\c k≠0/\x k<n
   ·exact ih e
   exact⟨i,h1,h2,λk hk hck=>aT λhlt=>e ⟨k,hk,hck,by omega⟩⟩
 obtain⟨i,hi,hci,hm⟩:=hmin a (by obtain⟨i,h1,h2⟩:=hex;exact⟨i,h1,h2,h.lt i h1⟩)
 have hxi:=h.lt i hi
 have e1:r (x i)=W i (x i)*c i:=by
  rw[hr _ hxi]
  have e:cG (λk=>W k (x i)*c k) t=cG (λk=>if k=i then W i (x i)*c i else 0) t:=bK λk hk=>by
   by_cases e1:k=i
   ·rw[if_pos e1,e1]
   rw[if_neg e1]
   by_cases e2:c k=0
   ·rw[e2,bZ]
   have h5:=hm k hk e2
   have h6:x i≠x k:=λe3=>e1 (h.inj i k hi hk e3).symm
   rw[h.z k hk (x i) oM,dH]
  rw[e,jJ (m:=i) hi λk hk=>if_neg hk,if_pos rfl]
 have e2:r (x i)≠0:=by
  rw[e1]
  intro h5
  rcases qS.1 h5 with h6|h6
  ·exact h.nz i hi h6
  exact hci h6
 have e3:∀z,z<x i->r z=0:=λz hzx=>by
  rw[hr z oM]
  refine fP λk hk=>?_
  by_cases e4:c k=0
  ·rw[e4,bZ]
  have:=hm k hk e4
  rw[h.z k hk z oM,dH]
 refine⟨i,hi,?_⟩
 rcases eS (x i) z0 with h5|h5|h5
 ·exact absurd (hz _ h5) e2
 ·exact h5
 exact absurd (e3 _ h5) hn
include h in
theorem IdS.no {r:Nat->Rat} {c:Nat->Rat} (hj:j<b) (hr:∀z,z<a->r z=Q z j+cG (λi=>W i z*c i) t) (h0:∀z,z<a->r z=0):Dep Q a b j/\IdS Q a b (j+1) t W x:=by
 obtain⟨y,h1,h2⟩:=h.comb c
 constructor
 ·refine⟨λl=>y l+(if l=j then 1 else 0),by show y j+_=1;rw[h1 j (aI j),if_pos rfl];grind,λl hl=>by show y l+_=0;rw[h1 l (eX hl),if_neg oM];grind,λz hz=>?_⟩
  have e:cG (λl=>Q z l*(y l+(if l=j then 1 else 0))) b=cG (λl=>Q z l*y l+1*(Q z l*(if l=j then 1 else 0))) b:=bK λl _=>by grind
  rw[e,kD,<-h2 z hz,jJ (m:=j) hj λl hl=>by rw[if_neg hl,bZ],if_pos rfl]
  have:=hr z hz
  rw[h0 z hz] at this
  grind
 refine⟨h.lt,h.nz,h.z,h.inj,λi hi=>?_,λl hl=>?_⟩
 ·obtain⟨y,h3,h4⟩:=h.A i hi
  exact⟨y,λl hl=>h3 l oM,h4⟩
 by_cases e:l=j
 ·subst e
  refine⟨λi=>-c i,λz hz=>?_⟩
  have e2:cG (λi=>W i z* -c i) t=-1*cG (λi=>W i z*c i) t:=by rw[<-jK];exact bK λi _=>by grind
  have:=hr z hz
  rw[h0 z hz] at this
  rw[e2];grind
 exact h.B l oM
include h in
theorem IdS.yes {r:Nat->Rat} {c:Nat->Rat} {z0:Nat} (hj:j<b) (hr:∀z,z<a->r z=Q z j+cG (λi=>W i z*c i) t) (h0:z0<a) (hn:r z0≠0) (hz:∀z,z<z0->r z=0) (hx:∀i,i<t->x i≠z0):¬Dep Q a b j/\IdS Q a b (j+1) (t+1) (upd W t r) (upd x t z0):=by
 have sw:∀(f:Nat->Rat) (z:Nat),cG (λi=>upd W t r i z*f i) (t+1)=cG (λi=>W i z*f i) t+r z*f t:=λf z=>by
  show cG _ t+upd W t r t z*f t=_
  rw[bH,bK (g:=λi=>W i z*f i) λi hi=>by rw[bA oM]]
 constructor
 ·rintro⟨y,h1,h2,h3⟩
  have key:∀s,s<=j->∃d:Nat->Rat,∀z,z<a->cG (λl=>Q z l*y l) s=cG (λi=>W i z*d i) t:=λs=>by
   induction s with
   |zero=>exact λ_=>⟨λ_=>0,λz _=>(fP λi _=>bZ _).symm⟩
   |succ s ih=>
    intro hs
    obtain⟨d,h4⟩:=ih oM
    obtain⟨d',h5⟩:=h.B s oM
    refine⟨λi=>d i+y s*d' i,λz hz=>?_⟩
    show cG (λl=>Q z l*y l) s+Q z s*y s=_
    have e:cG (λi=>W i z*(d i+y s*d' i)) t=cG (λi=>W i z*d i+y s*(W i z*d' i)) t:=bK λi _=>by grind
    rw[e,kD,h4 z hz,h5 z hz];grind
  obtain⟨d,hd⟩:=key j (aI j)
  obtain⟨i,hi,he⟩:=h.lead (r:=r) (c:=λi=>c i-d i) (z0:=z0) (λz hza=>by
   have e1:cG (λl=>Q z l*y l) (j+1)=0:=by
    rw[<-h3 z hza]
    exact(uH hj λl hl _=>by rw[h2 l oM,bZ]).symm
   replace e1:cG (λl=>Q z l*y l) j+Q z j*y j=0:=e1
   rw[h1,hd z hza] at e1
   have e2:cG (λi=>W i z*(c i-d i)) t=cG (λi=>W i z*c i+ -1*(W i z*d i)) t:=bK λi _=>by grind
   rw[e2,kD,hr z hza];grind) h0 hn hz
  exact hx i hi he
 refine⟨λi hi=>?_,λi hi=>?_,λi hi z hzi=>?_,λi k hi hk he=>?_,λi hi=>?_,λl hl=>?_⟩
 ·by_cases e:i=t
  ·subst e;rw[bH];exact h0
  rw[bA e];exact h.lt i oM
 ·by_cases e:i=t
  ·subst e;rw[bH,bH];exact hn
  rw[bA e,bA e];exact h.nz i oM
 ·by_cases e:i=t
  ·subst e;rw[bH];rw[bH] at hzi;exact hz z hzi
  rw[bA e];rw[bA e] at hzi;exact h.z i oM z hzi
 ·by_cases e:i=t
  ·by_cases e2:k=t
   ·rw[e,e2]
   rw[e,bH,bA e2] at he;exact absurd he.symm (hx k oM)
  by_cases e2:k=t
  ·rw[e2,bH,bA e] at he;exact absurd he (hx i oM)
  rw[bA e,bA e2] at he;exact h.inj i k oM oM he
 ·by_cases e:i=t
  ·subst e
   obtain⟨y,h1,h2⟩:=h.comb c
   refine⟨λl=>y l+(if l=j then 1 else 0),λl hl=>by show y l+_=0;rw[h1 l oM,if_neg oM];grind,λz hz=>?_⟩
   rw[bH]
   have e:cG (λl=>Q z l*(y l+(if l=j then 1 else 0))) b=cG (λl=>Q z l*y l+1*(Q z l*(if l=j then 1 else 0))) b:=bK λl _=>by grind
   rw[e,kD,<-h2 z hz,jJ (m:=j) hj λl hl=>by rw[if_neg hl,bZ],if_pos rfl,hr z hz]
   grind
  rw[bA e]
  obtain⟨y,h3,h4⟩:=h.A i oM
  exact⟨y,λl hl=>h3 l oM,h4⟩
 by_cases e:l=j
 ·subst e
  refine⟨λi=>if i=t then 1 else-c i,λz hz=>?_⟩
  rw[sw,if_pos rfl]
  have e2:cG (λi=>W i z*(if i=t then 1 else-c i)) t=-1*cG (λi=>W i z*c i) t:=by rw[<-jK];exact bK λi hi=>by rw[if_neg oM];grind
  rw[e2,hr z hz];grind
 obtain⟨d,hd⟩:=h.B l oM
 refine⟨λi=>if i=t then 0 else d i,λz hz=>?_⟩
 rw[sw,if_pos rfl,bZ,bJ,hd z hz]
 exact bK λi hi=>by rw[if_neg oM]
end ids
theorem bIt {Q Q':Nat->Nat->Rat} {a b j:Nat} {rk:Nat->Nat} (hl:∀i,i<a->rk i<a) (hi:∀i k,i<a->k<a->rk i=rk k->i=k) (hq:∀i l,i<a->l<b->Q' (rk i) l=Q i l):Dep Q' a b j↔Dep Q a b j:=by
 have hn:∀x,Nul Q' a b x↔Nul Q a b x:=λx=>⟨λh i hia=>by
  rw[<-h (rk i) (hl i hia)]
  exact bK λl hlb=>by rw[hq i l hia hlb],λh z hz=>by
  obtain⟨i,hia,rfl⟩:=oQ hl hi z hz
  rw[<-h i hia]
  exact bK λl hlb=>by rw[hq i l hia hlb]⟩
 exact⟨λ⟨x,h1,h2,h3⟩=>⟨x,h1,h2,(hn x).1 h3⟩,λ⟨x,h1,h2,h3⟩=>⟨x,h1,h2,(hn x).2 h3⟩⟩
theorem aCc {x x':Nat->Nat} {V V':Nat->CV}:∀{k:Nat},(∀i,i<k->x i=x' i/\V i=V' i)->kvL x V k=kvL x' V' k
 |0,_=>rfl
 |k+1,h=>by
  show kvL x V k++_=kvL x' V' k++_
  rw[aCc λi hi=>h i (eM hi),(h k (bE k)).1,(h k (bE k)).2]
theorem bSn {B m:Nat}:∀n,bd (bd B m) n=bd B (m+n)
 |0=>rfl
 |n+1=>by show 4*bd (bd B m) n+1=4*bd B (m+n)+1;rw[bSn n]
noncomputable def gD (P:Nat->Prop) (k:Nat):List Int:=@fQ P (λ_=>Classical.propDecidable _) k
theorem jM {P:Nat->Prop} {k:Nat} (h:P k):gD P (k+1)=gD P k++[(k:Int)]:=@xH P (λ_=>Classical.propDecidable _) k h
theorem mR {P:Nat->Prop} {k:Nat} (h:¬P k):gD P (k+1)=gD P k:=@sX P (λ_=>Classical.propDecidable _) k h
theorem iA {P:Nat->Prop} {k:Nat}:(gD P k).length<=k:=@rV P (λ_=>Classical.propDecidable _) k
theorem sY {P:Nat->Prop} [DecidablePred P]:∀k,fQ P k=gD P k
 |0=>rfl
 |k+1=>by
  by_cases h:P k
  ·rw[xH h,jM h,sY k]
  rw[sX h,mR h,sY k]
noncomputable abbrev jU (Q:Nat->Nat->Rat) (a b k:Nat):List Int:=gD (λj=>¬Dep Q a b j) k
theorem aOo {Q:Nat->Nat->Rat} {a b k:Nat} (h:¬Dep Q a b k):jU Q a b (k+1)=jU Q a b k++[(k:Int)]:=jM h
theorem aWk {Q:Nat->Nat->Rat} {a b k:Nat} (h:Dep Q a b k):jU Q a b (k+1)=jU Q a b k:=mR λhh=>hh h
theorem aFv {Q:Nat->Nat->Rat} {a b k:Nat}:(jU Q a b k).length<=k:=iA
structure InG where
 j:Nat
 t:Nat
 G:Nat->List CV
 ws:Nat->Sl EntM
 es:Nat->List En
 x:Nat->Nat
structure InI (Q:Nat->Nat->Rat) (a b B:Nat) (g:InG):Prop where
 j:g.j<=b
 G:g.G 0=kvL g.x (λi=>cC (g.ws i)) g.t
 e:EcS a g.t (bd B (a*g.j)) g.ws g.es g.x
 s:IdS Q a b g.j g.t (λi z=>Vm.get (g.es i) (z:Nat)) g.x
abbrev idB (m:MatM) (L:List Int):BL:=[(24,0,m.C),(3,1,L.map iC)]
theorem aSt {m:MatM} {L:List Int}:scB 2 (idB m L):=aB rfl (aB (bU (bR _)) aZ)
abbrev inS (d:Sl (Sl EntM)) (mb b j:Nat) (L:List Int):List (Nat×DV):=[(16,.c (iC j)),(14,.c (mI d)),(15,.c (iC b)),(4,.c (.v (.map (some mb)))),(5,.c (.s 1 L.length))]
abbrev bIu:FuncId:=57
theorem cNj:Ent Tryz.prog bIu:=aU func57 rfl kR
theorem cNk:Tryz.prog.funcs[bIu]? =some Tryz.f57:=func57
theorem bIv (m:MatM) {M:Nat->List En} {a b B:Nat} (h:Mr m M a b B) (hb:rbM M a B) (h1:1<=B) (hB:bd B (a*b)<=4398046511104) (ha:a<=12) (hbn:b<=4096):Ctr Tryz.prog bIu [] [.a m.C] [] (λg:Sl Int=>⟨.t [.c (cI g),.c (iC 0)],[],g.l=jU (mQ M) a b b⟩):=by
 have hB0:B<=4398046511104:=aJ (kY (aC (a*b))) hB
 refine aX gT cNj cNk rfl rfl rfl bL aS (aA gT mxd ⟨[],aFf _ h hB0 oM hbn,rfl,rfl,rfl,λ_ _=>⟨λh2=>absurd trivial h2,λ_=>aA gT mxd λmb=>⟨[],cNh m h hb h1 hB0 ha hbn,rfl,rfl,rfl,λ⟨d,rs,rk⟩ hS=>?_⟩⟩⟩)
 replace hS:SpF M a b d rs rk:=hS
 obtain⟨Q,hQ⟩:∃Q:Nat->Nat->Rat,Q=λz j=>Vm.get (rs j) (z:Nat):=⟨_,rfl⟩
 have hdp:∀j,Dep Q a b j↔Dep (mQ M) a b j:=λj=>bIt hS.lt hS.inj λi l hi hl=>by rw[hQ];exact hS.get i l hi hl
 have hrb:=hS.rb B h1 hb
 refine aIy 5 3 1 rfl bL ?_
 refine cE (λ_=>true) (λg:InG=>inS d mb b g.j (jU (mQ M) a b g.j)) (λg=>idB m (jU (mQ M) a b g.j)) (λg=>[mpF mb g.G]) (λg=>InI Q a b B g) (λg=>b-g.j) λhM=>⟨bF hM (chg:=λg:InG=>inS d mb b g.j (jU (mQ M) a b g.j)) (bls:=λg=>idB m (jU (mQ M) a b g.j)) (fls:=λg=>[mpF mb g.G]) ⟨0,0,λ_=>[],λ_=>cO,λ_=>[],λ_=>0⟩ ⟨aC _,rfl,⟨λ_ h=>absurd h (aD _),λ_ h=>absurd h (aD _),λ_ h=>absurd h (aD _),λ_ h=>absurd h (aD _),λ_ h=>absurd h (aD _)⟩,IdS.start⟩ rfl ⟨rfl,rfl⟩ ⟨rfl,trivial⟩ ⟨rfl,rfl,?_,rfl,rfl⟩ bL aSt rfl,λg hI=>aA gT mxd ⟨λh2=>aA gT mxd ?_,λh2=>aA gT mxd ?_⟩⟩
 ·show((d.l.length:Nat):Int)=(b:Nat);rw[hS.ln]
 ·replace h2:(g.j:Int)<(b:Nat):=h2
  have hjb:g.j<b:=by omega
  have hdl:=hS.ln
  have hab:a*g.j+a<=a*b:=by rw[<-vW];exact cW a hjb
  have hbb:bd (bd B (a*g.j)) a=bd B (a*(g.j+1)):=by rw[bSn,vW]
  have hll:=aFv (Q:=mQ M) (a:=a) (b:=b) (k:=g.j)
  have hv:=hS.ok g.j hjb
  refine⟨g.j,⟨rfl,by omega⟩,[1000],cNi mb g.G (d.l.getD g.j cO) hI.G hI.e (hS.row g.j hjb) hv (λe he=>(hrb g.j hjb e he).le (kY (aC _))) (vO h1 _) (by rw[hbb];exact aJ (kY (by rw[vW];exact hab)) hB) oM,rfl,rfl,rfl,λy hy=>?_⟩
  obtain⟨hy1,hy2⟩:=hy
  replace hy1:RdI a g.t (bd B (a*g.j)) g.es (rs g.j) y:=hy1
  replace hy2:y.r=[]\/∀i,i<g.t->((g.x i:Nat):Int)≠(y.r.getD 0 default).1:=hy2
  have hyl:=hy1.v.ln
  have hsum:∀z,z<a->Vm.get y.r (z:Nat)=Q z g.j+cG (λi=>Vm.get (g.es i) (z:Nat)*y.cf i) g.t:=λz _=>by rw[hQ];exact hy1.sum _
  have hle:∀i e,e∈g.es i->rb e.2 (bd B (a*g.j))->rb e.2 (bd B (a*(g.j+1))):=λi e _ h=>h.le (kY (by rw[vW];omega))
  have hS0:IdS Q a b g.j g.t (λi z=>Vm.get (g.es i) (z:Nat)) g.x:=hI.s
  refine⟨λh3=>aA gT mxd ?_,λh3=>aA gT mxd ?_⟩
  ·replace h3:(0:Int)<(y.v.l.length:Nat):=h3
   have hrl:0<y.r.length:=by omega
   obtain⟨r1,r2,r3,r4⟩:=aFu hy1.ok hrl
   obtain⟨z0,hz0⟩:∃z0:Nat,(y.r.getD 0 default).1=(z0:Nat):=⟨(y.r.getD 0 default).1.toNat,by omega⟩
   have hx:∀i,i<g.t->g.x i≠z0:=λi hi e=>by
    rcases hy2 with h4|h4
    ·rw[h4] at hrl;exact absurd hrl (jE 0)
    exact h4 i hi (by rw[hz0,e])
   have he0:=(hy1.v.e 0 hrl)
   obtain⟨n1,n2⟩:=hS0.yes (r:=λz=>Vm.get y.r (z:Nat)) (c:=y.cf) (z0:=z0) hjb hsum oM (by show Vm.get y.r (z0:Nat)≠0;rw[<-hz0,r1];exact r2) (λz hz=>r4 _ oM) hx
   have n1':¬Dep (mQ M) a b g.j:=λh=>n1 ((hdp g.j).2 h)
   have hyes:=aOo n1'
   refine⟨0,⟨rfl,by omega⟩,0,0,z0,⟨Nat.one_pos,rfl,he0.1.trans hz0,λi c' h4 h5=>?_⟩,apI (x:=jU (mQ M) a b g.j) oM,(λc hc=>by rw[aE.1 hc];rfl),(g.j+1:Nat),wi,bF hM (chg:=λg:InG=>inS d mb b g.j (jU (mQ M) a b g.j)) (bls:=λg=>idB m (jU (mQ M) a b g.j)) (fls:=λg=>[mpF mb g.G]) ⟨g.j+1,g.t+1,upd g.G 0 (g.G 0++[iC (z0:Nat),cC y.v]),upd g.ws g.t y.v,upd g.es g.t y.r,upd g.x g.t z0⟩ ⟨⟨hjb,?_,⟨λi hi=>?_,λi hi=>?_,λi hi=>?_,λi hi=>?_,λi hi=>?_⟩,?_⟩,show b-(g.j+1)<b-g.j by omega⟩ rfl ⟨rfl,?_⟩ ⟨rfl,trivial⟩ ⟨rfl,rfl,rfl,rfl,?_⟩ bL aSt rfl⟩
   ·rw[show(mpF mb g.G).get 0=kvL g.x (λi=>cC (g.ws i)) g.t from hI.G] at h4 h5
    obtain⟨h6,h7,_⟩:=aBz h4 h5
    exact hx i h6 oM
   ·refine(bH:upd g.G 0 _ 0=_).trans ?_
    have e1:kvL g.x (λi=>cC (g.ws i)) g.t=kvL (upd g.x g.t z0) (λi=>cC (upd g.ws g.t y.v i)) g.t:=aCc λi hi=>⟨(bA oM).symm,by rw[bA oM]⟩
    have e2:upd g.x g.t z0 g.t=z0:=bH
    have e3:upd g.ws g.t y.v g.t=y.v:=bH
    show g.G 0++_=kvL (upd g.x g.t z0) (λi=>cC (upd g.ws g.t y.v i)) g.t++[iC (upd g.x g.t z0 g.t:Nat),cC (upd g.ws g.t y.v g.t)]
    rw[e2,e3,<-e1,hI.G]
   ·by_cases e:i=g.t
    ·subst e;show Ek (upd g.ws g.t y.v g.t).l (upd g.es g.t y.r g.t);rw[bH,bH];exact hy1.v
    show Ek (upd g.ws g.t y.v i).l (upd g.es g.t y.r i);rw[bA e,bA e];exact hI.e.row i (by have:i<g.t+1:=hi;omega)
   ·by_cases e:i=g.t
    ·subst e;show VOk (upd g.es g.t y.r g.t) _;rw[bH];exact hy1.ok
    show VOk (upd g.es g.t y.r i) _;rw[bA e];exact hI.e.ok i (by have:i<g.t+1:=hi;omega)
   ·by_cases e:i=g.t
    ·subst e;show rbE (upd g.es g.t y.r g.t) (bd B (a*(g.j+1)));rw[bH,<-hbb];exact λe he=>(hy1.rb e he).le (kY hy1.c)
    show rbE (upd g.es g.t y.r i) (bd B (a*(g.j+1)));rw[bA e];exact λe' he=>hle i e' he (hI.e.rb i (by have:i<g.t+1:=hi;omega) e' he)
   ·by_cases e:i=g.t
    ·subst e;show 0<(upd g.es g.t y.r g.t).length;rw[bH];exact hrl
    show 0<(upd g.es g.t y.r i).length;rw[bA e];exact hI.e.ne i (by have:i<g.t+1:=hi;omega)
   ·by_cases e:i=g.t
    ·subst e;show((upd g.es g.t y.r g.t).getD 0 default).1=(upd g.x g.t z0 g.t:Nat);rw[bH,bH];exact hz0
    show((upd g.es g.t y.r i).getD 0 default).1=(upd g.x g.t z0 i:Nat);rw[bA e,bA e];exact hI.e.ld i (by have:i<g.t+1:=hi;omega)
   ·show IdS Q a b (g.j+1) (g.t+1) (λi z=>Vm.get (upd g.es g.t y.r i) (z:Nat)) (upd g.x g.t z0)
    have e:(λ(i z:Nat)=>Vm.get (upd g.es g.t y.r i) (z:Nat))=upd (λ(i z:Nat)=>Vm.get (g.es i) (z:Nat)) g.t λz=>Vm.get y.r (z:Nat):=funext λi=>by
     by_cases e:i=g.t
     ·subst e;rw[bH];funext z;rw[bH]
     rw[bA e];funext z;rw[bA e]
    rw[e];exact n2
   ·show(_,_,(jU (mQ M) a b g.j).map iC++[iC (g.j:Nat)])=(_,_,(jU (mQ M) a b (g.j+1)).map iC)
    rw[hyes,bI];rfl
   show(jU (mQ M) a b g.j).length+1=(jU (mQ M) a b (g.j+1)).length
   rw[hyes,aF];rfl
  replace h3:¬(0:Int)<(y.v.l.length:Nat):=h3
  have hr0:y.r=[]:=bQ oM
  obtain⟨n1,n2⟩:=hS0.no (r:=λz=>Vm.get y.r (z:Nat)) (c:=y.cf) hjb hsum (λz _=>by show Vm.get y.r _=0;rw[hr0];rfl)
  have n1':Dep (mQ M) a b g.j:=(hdp g.j).1 n1
  have hno:=aWk n1'
  refine⟨(g.j+1:Nat),wi,bF hM (chg:=λg:InG=>inS d mb b g.j (jU (mQ M) a b g.j)) (bls:=λg=>idB m (jU (mQ M) a b g.j)) (fls:=λg=>[mpF mb g.G]) ⟨g.j+1,g.t,g.G,g.ws,g.es,g.x⟩ ⟨⟨hjb,hI.G,⟨hI.e.row,hI.e.ok,λi hi e he=>hle i e he (hI.e.rb i hi e he),hI.e.ne,hI.e.ld⟩,n2⟩,show b-(g.j+1)<b-g.j by omega⟩ rfl ⟨rfl,?_⟩ ⟨rfl,trivial⟩ ⟨rfl,rfl,rfl,rfl,?_⟩ bL aSt rfl⟩
  ·show(_,_,(jU (mQ M) a b g.j).map iC)=(_,_,(jU (mQ M) a b (g.j+1)).map iC)
   rw[hno]
  show(jU (mQ M) a b g.j).length=(jU (mQ M) a b (g.j+1)).length
  rw[hno]
 replace h2:¬(g.j:Int)<(b:Nat):=h2
 have hgj:g.j=b:=by have:=hI.j;omega
 show Sd _ _ _ _ _ _
 refine rR 5 1 (λj=>[iC ((jU (mQ M) a b g.j).getD j 0)]) rfl rfl (λj hj=>oO j hj) (by rw[aO,bN]) bL (bR _) bL λA c _ _=>aA gT mxd ⟨⟨A,c,jU (mQ M) a b g.j⟩,by show jU (mQ M) a b g.j=_;rw[hgj],aM ⟨rfl,rfl⟩ rfl trivial⟩
theorem cNl {p:Prop} {hp:Decidable p} (h:¬p) {ρ:Pl} {n:Nat} {w:World} {v:Value} (hv:Hd ρ n w (.c (.b p hp)) v):Hd ρ n w (.c (.v (.bool false))) v:=by
 have:=hv.inv_c.inv_b
 rw[this,decide_eq_false h];exact .c (Rc.v _)
theorem aHo {p:Prop} {hp:Decidable p} (h:p) {ρ:Pl} {n:Nat} {w:World} {v:Value} (hv:Hd ρ n w (.c (.b p hp)) v):Hd ρ n w (.c (.v (.bool true))) v:=by
 have:=hv.inv_c.inv_b
 rw[this,decide_eq_true h];exact .c (Rc.v _)
abbrev nB (n:Int):BL:=[(3,0,[iC n])]
theorem aHp {n:Int}:scB 1 (nB n):=aB rfl aZ
abbrev yR:FuncId:=191
theorem cNm:Ent Tryz.prog yR:=aU func191 rfl kR
theorem cNn:Tryz.prog.funcs[yR]? =some Tryz.f191:=func191
theorem cCl (n i:Int) (h:0<=i/\i<n):Ctr Tryz.prog yR [true] [.c (iC i),.c (.p 0 0)] (nB n) (λ_:Unit=>⟨pC False,nB n,True⟩):=
 aX gT cNm cNn rfl rfl rfl bL (eT rfl) (aA gT mxd ⟨(),trivial,fH ⟨λhh=>Or.elim hh (λhh=>absurd hh (pL.2 h.1)) λhh=>absurd hh (zI.2 h.2),False.elim⟩ rfl bL aHp rfl (eT rfl)⟩)
abbrev cCm:FuncId:=190
theorem cTu:Ent Tryz.prog cCm:=aU func190 rfl kR
theorem cTv:Tryz.prog.funcs[cCm]? =some Tryz.f190:=func190
theorem bSo (n:Int):Ctr Tryz.prog cCm [] [.c (iC n)] [] (λ_:Unit=>⟨.c (.f yR [] [(0,0)]),nB n,True⟩):=
 aX gT cTu cTv rfl rfl rfl bL aS (aA gT mxd ⟨(),trivial,fH rfl rfl (aC _) aHp rfl aCr⟩)
abbrev cCn:FuncId:=224
theorem cTw:Ent Tryz.prog cCn:=aU func224 rfl kR
theorem cTx:Tryz.prog.funcs[cCn]? =some Tryz.f224:=func224
theorem cNo (x:Sl Int) (n:Int) (hl:x.l.length<=4096) (h:∀k,k<x.l.length->0<=x.l.getD k 0/\x.l.getD k 0<n):Ctr Tryz.prog cCn [true] [.c (cI x),.c (.f yR [] [(0,0)])] (nB n) (λ_:Unit=>⟨.c (iC (-1)),nB n,True⟩):=by
 refine aX gT cTw cTx rfl rfl rfl bL (eT rfl) (aA gT mxd ?_)
 refine cE (λ_=>true) (λk:Nat=>[(8,.c (iC k)),(0,.c (cI x)),(1,.c (.f yR [] [(0,0)])),(7,.c (iC (x.l.length:Nat)))]) (λ_=>nB n) (λ_=>[]) (λk=>k<=x.l.length) (λk=>x.l.length-k) λhM=>⟨bF hM (chg:=λk:Nat=>[(8,.c (iC k)),(0,.c (cI x)),(1,.c (.f yR [] [(0,0)])),(7,.c (iC (x.l.length:Nat)))]) (bls:=λ_=>nB n) (fls:=λ_=>[]) 0 (aC _) rfl rfl trivial ⟨rfl,rfl,rfl,rfl⟩ bL aHp rfl,λk hk=>aA gT mxd ⟨λh2=>aA gT mxd ?_,λh2=>aA gT mxd ?_⟩⟩
 ·replace h2:(k:Int)<(x.l.length:Nat):=h2
  have hkn:k<x.l.length:=by omega
  exact⟨k,⟨rfl,hkn⟩,_,rfl,[0],cCl n _ (h k hkn),rfl,rfl,rfl,λ_ _=>⟨λhh=>hh.elim,λ_=>aA gT mxd ⟨(k+1:Nat),wi,bF hM (chg:=λk:Nat=>[(8,.c (iC k)),(0,.c (cI x)),(1,.c (.f yR [] [(0,0)])),(7,.c (iC (x.l.length:Nat)))]) (bls:=λ_=>nB n) (fls:=λ_=>[]) (k+1) ⟨hkn,show x.l.length-(k+1)<x.l.length-k by omega⟩ rfl rfl trivial ⟨rfl,rfl,rfl,rfl⟩ bL aHp rfl⟩⟩⟩
 exact aA gT mxd ⟨(),trivial,fH rfl rfl bL aHp rfl (eT rfl)⟩
abbrev bPm:FuncId:=192
theorem cTy:Ent Tryz.prog bPm:=aU func192 rfl kR
theorem cTz:Tryz.prog.funcs[bPm]? =some Tryz.f192:=func192
theorem bSp (x:Sl Int) (n:Int) (hl:x.l.length<=4096) (h:∀k,k<x.l.length->0<=x.l.getD k 0/\x.l.getD k 0<n):Ctr Tryz.prog bPm [true] [.c (cI x),.c (.f yR [] [(0,0)])] (nB n) (λ_:Unit=>⟨.c (.v (.bool false)),nB n,True⟩):=by
 have h1:Ctr Tryz.prog bPm [true] [.c (cI x),.c (.f yR [] [(0,0)])] (nB n) (λ_:Unit=>⟨pC False,nB n,True⟩):=
  aX gT cTy cTz rfl rfl rfl bL (eT rfl) (aA gT mxd ⟨[0],cNo x n hl h,rfl,rfl,rfl,λ_ _=>⟨(),trivial,fH ⟨λhh=>absurd hh (show ¬((0:Int)<=-1) by decide),False.elim⟩ rfl bL aHp rfl (eT rfl)⟩⟩)
 exact CtrF.ld h1 λg hg=>⟨(),trivial,λ_ _ _ _ hv=>cNl (λhh=>hh) hv,rfl,rfl⟩
theorem bSq (z:Int) (h:0<=z/\z<=16384):Ctr Tryz.prog bNk [] [.c (iC z)] [] (λ_:Unit=>⟨.c (.v (.bool true)),[],True⟩):=CtrF.ld (bFh z) λg hg=>⟨(),trivial,λ_ _ _ _ hv=>aHo h hv,rfl,rfl⟩
abbrev cCo:FuncId:=193
theorem cUa:Ent Tryz.prog cCo:=aU func193 rfl kR
theorem cUb:Tryz.prog.funcs[cCo]? =some Tryz.f193:=func193
theorem cNp (e f:EntM):Ctr Tryz.prog cCo [] [.a e.C,.a f.C] [] (λ_:Unit=>⟨.c (iC (cmE e.ix f.ix)),[],True⟩):=
 aX gT cUa cUb rfl rfl rfl bL aS (aA gT mxd ⟨[],bGu e.ix f.ix,rfl,rfl,rfl,λ_ _=>⟨(),trivial,aM rfl rfl trivial⟩⟩)
structure SelA (a b:Nat) (rs cs:Sl Int) (ρ κ:Nat->Nat):Prop where
 r:∀k,k<rs.l.length->rs.l.getD k 0=(ρ k:Nat)/\ρ k<a
 c:∀k,k<cs.l.length->cs.l.getD k 0=(κ k:Nat)/\κ k<b
 m:∀k l,k<l->l<cs.l.length->κ k<κ l
 rl:rs.l.length<=4096
 cl:cs.l.length<=12
abbrev bPn (m:MatM):BL:=[(24,0,m.C),(24,0,[iC 0,iC 0,.v (.slice none 0 0)])]
theorem aWl {m:MatM}:scB 2 (bPn m):=aB rfl (aB rfl aZ)
abbrev cCp (rs cs:Sl Int) (mb k:Nat):List (Nat×DV):=[(53,.c (iC k)),(9,.c (.v (.map (some mb)))),(51,.c (cI cs)),(52,.c (iC (cs.l.length:Nat))),(3,.c (.p 0 0)),(6,.c (.p 1 0)),(1,.c (cI rs)),(2,.c (cI cs))]
abbrev bPo (rs:Sl Int) (mb k:Nat):List (Nat×DV):=[(74,.c (iC k)),(72,.c (cI rs)),(73,.c (iC (rs.l.length:Nat))),(9,.c (.v (.map (some mb)))),(3,.c (.p 0 0)),(6,.c (.p 1 0)),(12,.c (.p 4 0))]
abbrev bIw (m:MatM) (u n:Nat) (Y:Nat->Sl EntM):BL:=[(24,0,m.C),(24,0,[iC 0,iC 0,.v (.slice none 0 0)]),(24,0,[iC u,iC n,.s 3 u]),(65,1,dR u λj=>cC (Y j)),(24,0,[iC u,iC n,.s 3 u])]
theorem aWm {m:MatM} {u n:Nat} {Y:Nat->Sl EntM}:scB 5 (bIw m u n Y):=aB rfl (aB rfl (aB rfl (aB (bU (aY λ_ _=>rfl)) (aB rfl aZ))))
abbrev aSu (x:Sl EntM) (rs:Sl Int) (mb k t l:Nat):List (Nat×DV):=(85,.c (iC t))::(83,.c (cC x))::(84,.c (iC (x.l.length:Nat)))::(15,.c (.s 5 l))::(13,.c (iC k))::bPo rs mb k
abbrev aOp (m:MatM) (u n:Nat) (Y:Nat->Sl EntM) (L:List EntM):BL:=bIw m u n Y++[(82,4,ecs L)]
theorem aDq {m:MatM} {u n:Nat} {Y:Nat->Sl EntM} {L:List EntM}:scB 6 (aOp m u n Y L):=aB rfl (aB rfl (aB rfl (aB (bU (aY λ_ _=>rfl)) (aB rfl (aB (bU (gN L)) aZ)))))
abbrev bIx (x:Sl EntM) (rs:Sl Int) (mb k t l:Nat) (d:CV) (v z:Nat):List (Nat×DV):=(94,.c (iC z))::(92,.c d)::(93,.c (iC v))::(17,.c (.p 6 0))::aSu x rs mb k t l
abbrev aYw (m:MatM) (u n:Nat) (Y:Nat->Sl EntM) (L:List EntM) (e:EntM):BL:=aOp m u n Y L++[(82,0,e.C)]
theorem aLe {m:MatM} {u n:Nat} {Y:Nat->Sl EntM} {L:List EntM} {e:EntM}:scB 7 (aYw m u n Y L e):=aB rfl (aB rfl (aB rfl (aB (bU (aY λ_ _=>rfl)) (aB rfl (aB (bU (gN L)) (aB rfl aZ))))))
theorem cNq (n:Nat):PmL (nL n λi=>i) n:=by
 have e:∀i,i<n->(nL n λi=>i).getD i 0=(i:Nat):=λi hi=>by unfold nL;simp[hi]
 exact⟨by unfold nL;simp,λi hi=>⟨i,e i hi,hi⟩,λi j hi hj h=>by rw[e i hi,e j hj] at h;omega⟩
theorem bPp {zs ys:List EntM} {es:List En} {n:Nat} (hz:zs.Perm ys) (hs:SrE zs ys.length) (hy:Ek ys es) (ho:VOk es (n:Nat)):Ek zs es:=by
 obtain⟨rs,r1,r2⟩:=aVv hz hy
 have e:es.map (rnE (nL n λi=>i))=es:=by
  refine(dQ λe he=>?_).trans (xV es)
  have h1:=ho.2 e he
  have h2:(nL n λi=>i).getD e.1.toNat 0=(e.1.toNat:Nat):=by unfold nL;simp[show e.1.toNat<n by omega]
  show((nL n λi=>i).getD e.1.toNat 0,e.2)=e
  rw[h2,show((e.1.toNat:Nat):Int)=e.1 by omega]
 have h1:Asc rs:=bHb r1 (by rw[hz.length_eq];exact hs) (by rw[e];exact r2) ho (cNq n)
 rw[<-Vm.canon_ext rs es h1 ho.1 (λe he=>(ho.2 e (r2.subset he)).2.2) (λe he=>(ho.2 e he).2.2) λi=>Vm.get_perm r2 i]
 exact r1
abbrev bIy:FuncId:=128
theorem cNr:Ent Tryz.prog bIy:=aU func128 rfl kR
theorem cNs:Tryz.prog.funcs[bIy]? =some Tryz.f128:=func128
theorem cCq (m:MatM) (rs cs:Sl Int) {M:Nat->List En} {a b B:Nat} {ρ κ:Nat->Nat} (h:Mr m M a b B) (hb:rbM M a B) (h1:1<=B) (hB:B<=4398046511104) (ha:a<=4096) (hbn:b<=4096) (hA:SelA a b rs cs ρ κ):Ctr Tryz.prog bIy [] [.a m.C,.c (cI rs),.c (cI cs)] [] (λg:MatM=>⟨.t [.a g.C,.c (iC 0)],[],Mk g (λk=>jL κ cs.l.length (M (ρ k))) rs.l.length cs.l.length⟩):=by
 obtain⟨mr,mc,md⟩:=m
 obtain rfl:mr=(a:Nat):=h.r
 obtain rfl:mc=(b:Nat):=h.c
 have hrl:=hA.rl
 have hcl:=hA.cl
 refine aX gT cNr cNs rfl rfl rfl bL aS (aA gT mxd ⟨[],aFf _ h hB ha hbn,rfl,rfl,rfl,λ_ _=>⟨λh2=>absurd trivial h2,λ_=>aA gT mxd ⟨[],bSo (a:Nat),rfl,rfl,rfl,λ_ _=>⟨[2],bSp rs (a:Nat) oM (λk hk=>by have:=hA.r k hk;omega),rfl,rfl,rfl,λ_ _=>⟨[],bSo (b:Nat),rfl,rfl,rfl,λ_ _=>⟨[3],bSp cs (b:Nat) oM (λk hk=>by have:=hA.c k hk;omega),rfl,rfl,rfl,λ_ _=>⟨[],bSq (rs.l.length:Nat) oM,rfl,rfl,rfl,λ_ _=>⟨[],bSq (cs.l.length:Nat) oM,rfl,rfl,rfl,λ_ _ mb=>?_⟩⟩⟩⟩⟩⟩⟩⟩)
 refine cE (λ_=>true) (λg:Nat×(Nat->List CV)×(Nat->Sl Int)=>cCp rs cs mb g.1) (λ_=>bPn ⟨a,b,md⟩) (λg=>[mpF mb g.2.1]) (λg=>g.1<=cs.l.length/\g.2.1 0=kvL κ (λi=>cI (g.2.2 i)) g.1/\∀i,i<g.1->(g.2.2 i).l=[(i:Int)]) (λg=>cs.l.length-g.1) λhM=>⟨bF hM (chg:=λg:Nat×(Nat->List CV)×(Nat->Sl Int)=>cCp rs cs mb g.1) (bls:=λ_=>bPn ⟨a,b,md⟩) (fls:=λg=>[mpF mb g.2.1]) (0,λ_=>[],λ_=>cO) ⟨aC _,rfl,λi hi=>absurd hi (aD _)⟩ rfl ⟨rfl,rfl⟩ ⟨rfl,trivial⟩ ⟨rfl,rfl,rfl,rfl,rfl,rfl,rfl,rfl⟩ bL aWl rfl,λ⟨k,G,pl⟩ ⟨hk,hG,hpl⟩=>Sd.sq (aA gT mxd (Sd.sq (aA gT mxd ⟨λh2=>aA gT mxd ?_,λh2=>aA gT mxd ?_⟩)))⟩
 all_goals
  replace hk:k<=cs.l.length:=hk
  replace hG:G 0=kvL κ (λi=>cI (pl i)) k:=hG
  replace hpl:∀i,i<k->(pl i).l=[(i:Int)]:=hpl
 ·replace h2:(k:Int)<(cs.l.length:Nat):=h2
  have hkn:k<cs.l.length:=by omega
  refine Sd.sq (Sd.blk (Sd.sq (aA gT mxd ⟨k,⟨rfl,hkn⟩,?_⟩)))
  refine Sd.rg gT (l:=[_,_,_,_,_,_,_,_,_]) [_,_,_,_,_,_,_,_] [_] rfl rfl ?_
  have hno:∀(i:Nat) (c':CV),((mpF mb G).get 0)[2*i]? =some (.v (.int .i64 (κ k:Nat)))->((mpF mb G).get 0)[2*i+1]? =some c'->False:=λi c' h4 h5=>by
   rw[show(mpF mb G).get 0=kvL κ (λi=>cI (pl i)) k from hG] at h4 h5
   obtain⟨h6,h7,_⟩:=aBz h4 h5
   have:=hA.m i k h6 hkn
   omega
  refine⟨0,0,⟨Nat.one_pos,rfl⟩,λi c' h4 h5=>absurd (hno i c' (by rw[<-(hA.c k hkn).1];exact h4) h5) (λhh=>hh),λ_=>⟨⟨rfl,by simp only[maxLen];omega,by show 1*8<=_;omega⟩,?_⟩⟩
  show Sdl _ _ _ _ _ _ _
  refine aPy bUy 65 3 (λj=>[iC (([(k:Int)]:List Int).getD j 0)]) rfl rfl (λj hj=>?_) rfl bL (λc hc=>by rw[aE.1 hc];rfl) bL λA c _ _=>⟨cm (cAm rfl),?_⟩
  ·obtain rfl:j=0:=by omega
   rfl
  refine Sdl.go (l:=[_,_,_,_,_,_,_,_,_]) gT ?_
  refine⟨0,0,κ k,⟨Nat.one_pos,rfl,(hA.c k hkn).1,hno⟩,aA gT mxd ⟨(k+1:Nat),wi,bF hM (chg:=λg:Nat×(Nat->List CV)×(Nat->Sl Int)=>cCp rs cs mb g.1) (bls:=λ_=>bPn ⟨a,b,md⟩) (fls:=λg=>[mpF mb g.2.1]) (k+1,upd G 0 (G 0++[iC (κ k:Nat),cI ⟨A,c,[(k:Int)]⟩]),upd pl k ⟨A,c,[(k:Int)]⟩) ⟨⟨hkn,?_,λi hi=>?_⟩,show cs.l.length-(k+1)<cs.l.length-k by omega⟩ rfl ⟨rfl,rfl⟩ ⟨rfl,trivial⟩ ⟨rfl,rfl,rfl,rfl,rfl,rfl,rfl,rfl⟩ bL aWl rfl⟩⟩
  ·refine(bH:upd G 0 _ 0=_).trans ?_
   have e1:kvL κ (λi=>cI (pl i)) k=kvL κ (λi=>cI (upd pl k ⟨A,c,[(k:Int)]⟩ i)) k:=aCc λi hi=>⟨rfl,by rw[bA oM]⟩
   have e2:upd pl k ⟨A,c,[(k:Int)]⟩ k=⟨A,c,[(k:Int)]⟩:=bH
   show G 0++_=kvL κ (λi=>cI (upd pl k ⟨A,c,[(k:Int)]⟩ i)) k++[iC (κ k:Nat),cI (upd pl k ⟨A,c,[(k:Int)]⟩ k)]
   rw[e2,<-e1,hG]
  show(upd pl k _ i).l=_
  by_cases e:i=k
  ·subst e;rw[bH]
  rw[bA e];exact hpl i (by have:i<k+1:=hi;omega)
 replace h2:¬(k:Int)<(cs.l.length:Nat):=h2
 obtain rfl:k=cs.l.length:=by omega
 obtain⟨n,hn⟩:∃n,n=cs.l.length:=⟨_,rfl⟩
 obtain⟨u,hu⟩:∃u,u=rs.l.length:=⟨_,rfl⟩
 refine aA gT mxd ⟨[],bRq rs.l.length cs.l.length hrl,rfl,rfl,rfl,λ_ _=>?_⟩
 show Sd _ _ _ _ _ _
 refine gG tSd 3 (dR rs.l.length λ_=>cC cO) rfl (by rw[dK,dF]) (tK λ_ _=>qC) ?_
 refine cE (λ_=>true) (λg:Nat×(Nat->Sl EntM)=>bPo rs mb g.1) (λg=>bIw ⟨a,b,md⟩ rs.l.length cs.l.length g.2) (λ_=>[mpF mb G]) (λg=>g.1<=rs.l.length/\∀j,j<g.1->Ek (g.2 j).l (jL κ cs.l.length (M (ρ j)))) (λg=>rs.l.length-g.1) λhM=>⟨bF hM (chg:=λg:Nat×(Nat->Sl EntM)=>bPo rs mb g.1) (bls:=λg=>bIw ⟨a,b,md⟩ rs.l.length cs.l.length g.2) (fls:=λ_=>[mpF mb G]) (0,λ_=>cO) ⟨aC _,λj hj=>absurd hj (aD _)⟩ rfl ⟨rfl,rfl,rfl,rfl,rfl⟩ ⟨rfl,trivial⟩ ⟨rfl,rfl,rfl,rfl,rfl,rfl,rfl⟩ bL aWm rfl,λ⟨k,Y⟩ ⟨hk,hY⟩=>aA gT mxd ⟨λh3=>aA gT mxd ?_,λh3=>aA gT mxd ?_⟩⟩
 all_goals
  replace hk:k<=rs.l.length:=hk
  replace hY:∀j,j<k->Ek (Y j).l (jL κ cs.l.length (M (ρ j))):=hY
 ·replace h3:(k:Int)<(rs.l.length:Nat):=h3
  have hkn:k<rs.l.length:=by omega
  obtain⟨r1,r2⟩:=hA.r k hkn
  have hrow:=h.row _ r2
  have hok:=h.ok _ r2
  have hbr:=hb _ r2
  have hle:(md.l.getD (ρ k) cO).l.length=(M (ρ k)).length:=hrow.ln
  have hdl:md.l.length=a:=h.ln
  refine⟨k,⟨rfl,hkn⟩,ρ k,⟨r1,by show ρ k<md.l.length;omega⟩,?_⟩
  show Sd _ _ _ _ _ _
  refine aIy 15 82 4 rfl bL ?_
  refine cE (λ_=>true) (λg:Nat×List EntM=>aSu (md.l.getD (ρ k) cO) rs mb k g.1 g.2.length) (λg=>aOp ⟨a,b,md⟩ rs.l.length cs.l.length Y g.2) (λ_=>[mpF mb G]) (λg=>g.1<=(M (ρ k)).length/\Ek g.2 (jL κ cs.l.length ((M (ρ k)).take g.1))) (λg=>(M (ρ k)).length-g.1) λhM2=>⟨bF hM2 (chg:=λg:Nat×List EntM=>aSu (md.l.getD (ρ k) cO) rs mb k g.1 g.2.length) (bls:=λg=>aOp ⟨a,b,md⟩ rs.l.length cs.l.length Y g.2) (fls:=λ_=>[mpF mb G]) (0,[]) ⟨aC _,⟨rfl,λk hk=>absurd hk (aD _)⟩⟩ rfl ⟨rfl,rfl,rfl,rfl,rfl,rfl⟩ ⟨rfl,trivial⟩ ⟨rfl,rfl,rfl,rfl,rfl,rfl,rfl,rfl,rfl,rfl,rfl,rfl⟩ bL aDq rfl,λ⟨t,L⟩ ⟨ht,hL⟩=>Sd.sq (aA gT mxd (Sd.sq (aA gT mxd ⟨λh4=>aA gT mxd ?_,λh4=>aA gT mxd ?_⟩)))⟩
  all_goals
   replace ht:t<=(M (ρ k)).length:=ht
   replace hL:Ek L (jL κ cs.l.length ((M (ρ k)).take t)):=hL
  ·replace h4:(t:Int)<((md.l.getD (ρ k) cO).l.length:Nat):=h4
   have htl:t<(M (ρ k)).length:=by omega
   have hte:t<(md.l.getD (ρ k) cO).l.length:=by omega
   have he:=hrow.e t htl
   have hcl2:(jL κ cs.l.length ((M (ρ k)).take t)).length<=t:=aJ (tS _ _) (by rw[bG];omega)
   have hLl:=hL.ln
   have hMl:=hok.2
   refine Sd.cut (σ:=List EntM) (λL'=>⟨aSu (md.l.getD (ρ k) cO) rs mb k t L'.length++[],[],aOp ⟨a,b,md⟩ rs.l.length cs.l.length Y L',[mpF mb G]⟩) (λL'=>Ek L' (jL κ cs.l.length ((M (ρ k)).take (t+1)))) ?_ λL' hL'=>?_
   ·refine aA gT mxd ?_
    refine⟨t,⟨rfl,hte⟩,0,0,⟨Nat.one_pos,rfl⟩,λi c' h5 h6=>?_,λh5=>?_⟩
    ·rw[show(mpF mb G).get 0=kvL κ (λi=>cI (pl i)) cs.l.length from hG] at h5 h6
     obtain⟨hi,hz,hc'⟩:=aBz h5 h6
     subst hc'
     have hpi:=hpl i hi
     have hpn:(pl i).l.length=1:=by rw[hpi];rfl
     have hcf:=aHl hA.m htl hi (he.1.symm.trans hz)
     show Sd _ _ _ _ _ _
     refine cE (λ_=>true) (λg:Nat×List EntM=>bIx (md.l.getD (ρ k) cO) rs mb k t g.2.length (cI (pl i)) (pl i).l.length g.1) (λg=>aYw ⟨a,b,md⟩ rs.l.length cs.l.length Y g.2 ((md.l.getD (ρ k) cO).l.getD t default)) (λ_=>[mpF mb G]) (λg=>g.1<=1/\(g.1=0->g.2=L)/\(g.1=1->Ek g.2 (jL κ cs.l.length ((M (ρ k)).take (t+1))))) (λg=>1-g.1) λhM3=>⟨bF hM3 (chg:=λg:Nat×List EntM=>bIx (md.l.getD (ρ k) cO) rs mb k t g.2.length (cI (pl i)) (pl i).l.length g.1) (bls:=λg=>aYw ⟨a,b,md⟩ rs.l.length cs.l.length Y g.2 ((md.l.getD (ρ k) cO).l.getD t default)) (fls:=λ_=>[mpF mb G]) (0,L) ⟨aC _,λ_=>rfl,λh=>by cases h⟩ rfl ⟨rfl,rfl,rfl,rfl,rfl,rfl,rfl⟩ ⟨rfl,trivial⟩ ⟨rfl,rfl,rfl,rfl,rfl,rfl,rfl,rfl,rfl,rfl,rfl,rfl,rfl,rfl,rfl,rfl⟩ bL aLe rfl,λ⟨z,L'⟩ ⟨hz1,hz2,hz3⟩=>aA gT mxd ⟨λh7=>aA gT mxd ?_,λh7=>aA gT mxd ?_⟩⟩
     all_goals
      replace hz1:z<=1:=hz1
      replace hz2:z=0->L'=L:=hz2
      replace hz3:z=1->Ek L' (jL κ cs.l.length ((M (ρ k)).take (t+1))):=hz3
     ·replace h7:(z:Int)<((pl i).l.length:Nat):=h7
      have hz0:z=0:=by omega
      have hLL:L'=L:=hz2 hz0
      have hL1:Ek L' (jL κ cs.l.length ((M (ρ k)).take t)):=by rw[hLL];exact hL
      have hLl1:=hL1.ln
      have hix:(pl i).l.getD z 0=(i:Nat):=by rw[hpi,hz0];rfl
      refine⟨z,⟨rfl,by omega⟩,[],oB ((md.l.getD (ρ k) cO).l.getD t default).v (he.2.le hB),rfl,rfl,rfl,λg hg=>⟨⟨rfl,(gM _).symm,by show L'.length+1<=maxLen;simp only[maxLen];omega,by show(L'.length+1)*64<=_;omega,λc hc=>(aR.1 hc).elim (λh=>dB (gN L' c h)) (mH ⟨(pl i).l.getD z 0,g⟩ c)⟩,(λc hc=>dB (aY (λ_ _=>rfl) c hc)),mH ⟨(pl i).l.getD z 0,g⟩,(z+1:Nat),wi,bF hM3 (chg:=λg:Nat×List EntM=>bIx (md.l.getD (ρ k) cO) rs mb k t g.2.length (cI (pl i)) (pl i).l.length g.1) (bls:=λg=>aYw ⟨a,b,md⟩ rs.l.length cs.l.length Y g.2 ((md.l.getD (ρ k) cO).l.getD t default)) (fls:=λ_=>[mpF mb G]) (z+1,L'++[⟨(pl i).l.getD z 0,g⟩]) ⟨⟨by show z+1<=1;omega,λh=>absurd h (Nat.succ_ne_zero z),λ_=>?_⟩,show 1-(z+1)<1-z by omega⟩ rfl ⟨rfl,rfl,rfl,rfl,rfl,?_,rfl⟩ ⟨rfl,trivial⟩ ⟨rfl,rfl,rfl,rfl,rfl,rfl,rfl,?_,rfl,rfl,rfl,rfl,rfl,rfl,rfl,rfl⟩ bL aLe rfl⟩⟩
      ·show Ek (L'++[⟨(pl i).l.getD z 0,g⟩]) _
       rw[hcf,hix];exact vH hL1 hg
      ·show(_,_,_)=(_,_,_)
       rw[<-qB];rfl
      show L'.length+1=(L'++[_]).length
      rw[aF];rfl
     replace h7:¬(z:Int)<((pl i).l.length:Nat):=h7
     exact(bF hM2 (chg:=λL':List EntM=>aSu (md.l.getD (ρ k) cO) rs mb k t L'.length) (bls:=λL'=>aOp ⟨a,b,md⟩ rs.l.length cs.l.length Y L') (fls:=λ_=>[mpF mb G]) L' (hz3 oM) rfl ⟨rfl,rfl,rfl,rfl,rfl,rfl⟩ ⟨rfl,trivial⟩ ⟨rfl,rfl,rfl,rfl,rfl,rfl,rfl,rfl,rfl,rfl,rfl,rfl⟩ bL aDq rfl)
    have hno:∀j,j<cs.l.length->((κ j:Nat):Int)≠((M (ρ k)).getD t default).1:=λj hj e=>by
     rw[show(mpF mb G).get 0=kvL κ (λi=>cI (pl i)) cs.l.length from hG] at h5
     have h6:=aFr (x:=κ) (V:=λi=>cI (pl i)) hj
     exact h5 j _ (h6.1.trans (congrArg (λz=>some (iC z)) (e.trans he.1.symm))) h6.2
    show Sd _ _ _ _ _ _
    refine cE (λ_=>true) (λ_:Unit=>bIx (md.l.getD (ρ k) cO) rs mb k t L.length (.v (.slice none 0 0)) 0 0) (λ_=>aYw ⟨a,b,md⟩ rs.l.length cs.l.length Y L ((md.l.getD (ρ k) cO).l.getD t default)) (λ_=>[mpF mb G]) (λ_=>True) (λ_=>0) λhM3=>⟨bF hM3 (chg:=λ_:Unit=>bIx (md.l.getD (ρ k) cO) rs mb k t L.length (.v (.slice none 0 0)) 0 0) (bls:=λ_=>aYw ⟨a,b,md⟩ rs.l.length cs.l.length Y L ((md.l.getD (ρ k) cO).l.getD t default)) (fls:=λ_=>[mpF mb G]) () trivial rfl ⟨rfl,rfl,rfl,rfl,rfl,rfl,rfl⟩ ⟨rfl,trivial⟩ ⟨rfl,rfl,rfl,rfl,rfl,rfl,rfl,rfl,rfl,rfl,rfl,rfl,rfl,rfl,rfl,rfl⟩ bL aLe rfl,λ_ _=>aA gT mxd ⟨λh7=>absurd h7 (show ¬((0:Nat):Int)<((0:Nat):Int) by omega),λh7=>aA gT mxd ?_⟩⟩
    refine(bF hM2 (chg:=λL':List EntM=>aSu (md.l.getD (ρ k) cO) rs mb k t L'.length) (bls:=λL'=>aOp ⟨a,b,md⟩ rs.l.length cs.l.length Y L') (fls:=λ_=>[mpF mb G]) L ?_ rfl ⟨rfl,rfl,rfl,rfl,rfl,rfl⟩ ⟨rfl,trivial⟩ ⟨rfl,rfl,rfl,rfl,rfl,rfl,rfl,rfl,rfl,rfl,rfl,rfl⟩ bL aDq rfl)
    show Ek L (jL κ cs.l.length ((M (ρ k)).take (t+1)))
    rw[aHk htl hno];exact hL
   exact aA gT mxd ⟨(t+1:Nat),wi,bF hM2 (chg:=λg:Nat×List EntM=>aSu (md.l.getD (ρ k) cO) rs mb k g.1 g.2.length) (bls:=λg=>aOp ⟨a,b,md⟩ rs.l.length cs.l.length Y g.2) (fls:=λ_=>[mpF mb G]) (t+1,L') ⟨⟨htl,hL'⟩,show(M (ρ k)).length-(t+1)<(M (ρ k)).length-t by omega⟩ rfl ⟨rfl,rfl,rfl,rfl,rfl,rfl⟩ ⟨rfl,trivial⟩ ⟨rfl,rfl,rfl,rfl,rfl,rfl,rfl,rfl,rfl,rfl,rfl,rfl⟩ bL aDq rfl⟩
  replace h4:¬(t:Int)<((md.l.getD (ρ k) cO).l.length:Nat):=h4
  obtain rfl:t=(M (ρ k)).length:=by omega
  rw[cU] at hL
  have hvk:=yI hA.m hok.1
  have hvl:=kO hvk
  have hLl:=hL.ln
  have hm:=h.r
  show Sd _ _ _ _ _ _
  refine Sd.sq (aA gT mxd ⟨none,[5],bSa cNp L rfl oM,rfl,rfl,rfl,λzs hz=>rR 15 5 (λj=>(zs.getD j default).C) rfl rfl (λj hj=>?_) ?_ bL (gN zs) bL λA c _ _=>⟨λc hc=>dB (aY (λ_ _=>rfl) c hc),aA gT mxd ⟨k,⟨rfl,hkn,cS hkn⟩,_,gU (c:=.r A L.length c 4 λj=>(zs.getD j default).C) (Q:=λj=>cC (upd Y k ⟨A,c,zs⟩ j)) hkn (λj _=>?_),(k+1:Nat),wi,bF hM (chg:=λg:Nat×(Nat->Sl EntM)=>bPo rs mb g.1) (bls:=λg=>bIw ⟨a,b,md⟩ rs.l.length cs.l.length g.2) (fls:=λ_=>[mpF mb G]) (k+1,upd Y k ⟨A,c,zs⟩) ⟨⟨hkn,λj hj=>?_⟩,show rs.l.length-(k+1)<rs.l.length-k by omega⟩ rfl ⟨rfl,rfl,rfl,rfl,rfl⟩ ⟨rfl,trivial⟩ ⟨rfl,rfl,rfl,rfl,rfl,rfl,rfl⟩ bL aWm rfl⟩⟩⟩)
  all_goals
   obtain⟨hz1,hz2⟩:=hz
   have hzl:zs.length=L.length:=hz1.length_eq
  ·exact rU zs j (by rw[hzl];exact hj)
  ·rw[gM,hzl]
  ·by_cases e:j=k
   ·subst e;rw[if_pos rfl,bH]
    show _=CV.r A zs.length c 4 λj=>(zs.getD j default).C
    rw[hzl]
   rw[if_neg e,bA e]
  show Ek (upd Y k ⟨A,c,zs⟩ j).l _
  by_cases e:j=k
  ·subst e;rw[bH];exact bPp hz1 hz2 hL hvk
  rw[bA e];exact hY j (by have:j<k+1:=hj;omega)
 replace h3:¬(k:Int)<(rs.l.length:Nat):=h3
 obtain rfl:k=rs.l.length:=by omega
 show Sd _ _ _ _ _ _
 refine kU tSd 3 rfl bL (aY λ_ _=>rfl) bL rfl λA2 c2=>?_
 refine jQ tSd 4 1 [iC rs.l.length,iC cs.l.length,mI ⟨A2.map λb=>⟨b,0,none⟩,c2,kN Y rs.l.length⟩] rfl rfl rfl rfl (vK (k0:=2) rfl vL) (aA gT mxd ⟨⟨rs.l.length,cs.l.length,⟨A2.map λb=>⟨b,0,none⟩,c2,kN Y rs.l.length⟩⟩,⟨rfl,rfl,nM,λj hj=>?_,λj hj=>?_⟩,aM ⟨rfl,rfl⟩ rfl trivial⟩)
 ·show Ek ((kN Y rs.l.length).getD j cO).l _
  rw[qD hj];exact hY j hj
 have hvk:=yI (n:=cs.l.length) hA.m (h.ok _ (hA.r j hj).2).1
 exact⟨hvk,kO hvk⟩
structure CorM where
 c:Sl Int
 r:Sl Int
 f:LuM
def CorM.C (x:CorM):List CV:=[cI x.c,cI x.r,cI x.f.R,cI x.f.K,iC x.f.L.r,iC x.f.L.c,mI x.f.L.d,iC x.f.U.r,iC x.f.U.c,mI x.f.U.d]
abbrev cCr:List CV:=[.v (.slice none 0 0),.v (.slice none 0 0),.v (.slice none 0 0),.v (.slice none 0 0),iC 0,iC 0,.v (.slice none 0 0),iC 0,iC 0,.v (.slice none 0 0)]
noncomputable abbrev bcL (b:BasM) (n:Nat):List Int:=gD (λj=>b.c.l.getD j 0=2) n
noncomputable abbrev brL (b:BasM) (n:Nat):List Int:=gD (λi=>b.r.l.getD i 0≠2) n
def atN (l:List Int) (k:Nat):Nat:=(l.getD k 0).toNat
structure BasOk (p:ProgM) (b:BasM):Prop where
 c:b.c.l.length=p.c.l.length
 r:b.r.l.length=p.r.l.length
 pc:∀j,j<p.c.l.length->Pmt (p.c.l.getD j default) (b.c.l.getD j 0)
 pr:∀i,i<p.r.l.length->b.r.l.getD i 0=2\/b.r.l.getD i 0=dfR (p.r.l.getD i default).s
noncomputable def aAv (p:ProgM) (q:PrQ) (b:BasM) (k:Nat):List En:=jL (atN (bcL b p.c.l.length)) (bcL b p.c.l.length).length (q.M (atN (brL b p.r.l.length) k))
structure BVal (p:ProgM) (q:PrQ) (b:BasM):Prop where
 ok:BasOk p b
 n:(bcL b p.c.l.length).length=(brL b p.r.l.length).length
 k:¬Ker (aAv p q b) (brL b p.r.l.length).length
section sel
variable {P:Nat->Prop}
theorem oR:∀{n:Nat} {z:Int},z∈gD P n↔∃k:Nat,z=(k:Nat)/\k<n/\P k
 |0,z=>⟨λh=>(by cases h),λ⟨k,_,h,_⟩=>absurd h (aD k)⟩
 |n+1,z=>by
  by_cases hp:P n
  ·rw[jM hp,aR,oR,aE]
   constructor
   ·rintro(⟨k,h1,h2,h3⟩|h)
    ·exact⟨k,h1,by omega,h3⟩
    exact⟨n,h,by omega,hp⟩
   rintro⟨k,h1,h2,h3⟩
   rcases cM (cV h2) with h4|h4
   ·exact .inl ⟨k,h1,h4,h3⟩
   exact .inr (by rw[h1,h4])
  rw[mR hp,oR]
  constructor
  ·rintro⟨k,h1,h2,h3⟩;exact⟨k,h1,by omega,h3⟩
  rintro⟨k,h1,h2,h3⟩
  rcases cM (cV h2) with h4|h4
  ·exact⟨k,h1,h4,h3⟩
  rw[h4] at h3;exact absurd h3 hp
theorem aFw:∀n,(gD P n).Pairwise (·<·)
 |0=>List.Pairwise.nil
 |n+1=>by
  by_cases hp:P n
  ·rw[jM hp]
   refine eQ.2 ⟨aFw n,eJ _ _,λz hz y hy=>?_⟩
   obtain⟨k,h1,h2,_⟩:=oR.1 hz
   rw[aE.1 hy,h1];omega
  rw[mR hp];exact aFw n
theorem gJ (n:Nat):Enm P n (gD P n).length (atN (gD P n))/\∀k,k<(gD P n).length->(gD P n).getD k 0=(atN (gD P n) k:Nat):=by
 have h0:∀k,k<(gD P n).length->∃m:Nat,(gD P n).getD k 0=(m:Nat)/\m<n/\P m:=λk hk=>by
  have hm:(gD P n).getD k 0∈gD P n:=by rw[aH,aG hk];exact lO hk
  exact oR.1 hm
 have h1:∀k,k<(gD P n).length->(gD P n).getD k 0=(atN (gD P n) k:Nat):=λk hk=>by
  obtain⟨m,h2,_⟩:=h0 k hk
  unfold atN;rw[h2];rfl
 refine⟨⟨λk hk=>?_,λk l hkl hl=>?_,λk hk=>?_,λj hj hp=>?_⟩,h1⟩
 ·obtain⟨m,h2,h3,_⟩:=h0 k hk
  have:=h1 k hk
  omega
 ·have h2:=gE.1 (aFw (P:=P) n) k l oM hl hkl
  have h3:=h1 k oM
  have h4:=h1 l hl
  rw[aH,aG oM] at h3
  rw[aH,aG hl] at h4
  simp only[Option.getD_some] at h3 h4
  omega
 ·obtain⟨m,h2,_,h3⟩:=h0 k hk
  have:=h1 k hk
  rw[show atN (gD P n) k=m by omega];exact h3
 obtain⟨k,hk,h2⟩:=List.getElem_of_mem (oR.2 ⟨j,rfl,hj,hp⟩)
 refine⟨k,hk,?_⟩
 have:=h1 k hk
 rw[aH,aG hk] at this
 simp only[Option.getD_some] at this
 omega
end sel
theorem bPq (p:ProgM) (b:BasM) (C R:Sl Int) (hC:C.l=bcL b p.c.l.length) (hR:R.l=brL b p.r.l.length) (hc:p.c.l.length<=4096) (hr:p.r.l.length<=4096):CofA p R C (atN (brL b p.r.l.length)) (atN (bcL b p.c.l.length)):=by
 obtain⟨e1,e2⟩:=gJ (P:=λj=>b.c.l.getD j 0=2) p.c.l.length
 obtain⟨f1,f2⟩:=gJ (P:=λi=>b.r.l.getD i 0≠2) p.r.l.length
 have l1:=iA (P:=λj=>b.c.l.getD j 0=2) (k:=p.c.l.length)
 have l2:=iA (P:=λi=>b.r.l.getD i 0≠2) (k:=p.r.l.length)
 exact⟨λk hk=>by rw[hR] at hk ⊢;exact⟨f2 k hk,f1.lt k hk⟩,λk hk=>by rw[hC] at hk ⊢;exact⟨e2 k hk,e1.lt k hk⟩,λk l hkl hl=>by rw[hC] at hl;exact e1.mono k l hkl hl,by rw[hR];exact aJ l2 hr,by rw[hC];exact aJ l1 hc⟩
abbrev ncB (p:ProgM) (b:BasM) (L R:List Int):BL:=[(42,0,p.C),(45,0,b.C),(113,0,cCr),(113,0,[.s 4 L.length,.s 5 R.length,.v (.slice none 0 0),.v (.slice none 0 0),iC 0,iC 0,.v (.slice none 0 0),iC 0,iC 0,.v (.slice none 0 0)]),(3,1,L.map iC),(3,1,R.map iC)]
theorem aCd {p:ProgM} {b:BasM} {L R:List Int}:scB 6 (ncB p b L R):=aB rfl (aB rfl (aB rfl (aB rfl (aB (bU (bR _)) (aB (bU (bR _)) aZ)))))
abbrev bPr (b:BasM) (k:Nat):List (Nat×DV):=[(33,.c (iC k)),(2,.c (.p 0 0)),(3,.c (.p 1 0)),(4,.c (.p 2 0)),(6,.c (.p 3 0)),(31,.c (cI b.c)),(32,.c (iC (b.c.l.length:Nat)))]
abbrev bPs (b:BasM) (k:Nat):List (Nat×DV):=[(59,.c (iC k)),(2,.c (.p 0 0)),(3,.c (.p 1 0)),(4,.c (.p 2 0)),(6,.c (.p 3 0)),(57,.c (cI b.r)),(58,.c (iC (b.r.l.length:Nat)))]
abbrev cCs:=Option (CorM×(Nat->Nat)×(Nat->Nat)×(Nat->List En)×(Nat->List En))
structure CorI (p:ProgM) (q:PrQ) (b:BasM) (F:Nat) (x:CorM) (rw cl:Nat->Nat) (Lw Up:Nat->List En):Prop where
 v:BVal p q b
 c:x.c.l=bcL b p.c.l.length
 r:x.r.l=brL b p.r.l.length
 f:LuG x.f (aAv p q b) (brL b p.r.l.length).length rw cl Lw Up F
abbrev cCt:FuncId:=64
theorem cUc:Ent Tryz.prog cCt:=aU func64 rfl kR
theorem cUd:Tryz.prog.funcs[cCt]? =some Tryz.f64:=func64
theorem bSr (p:ProgM) (b:BasM) {q:PrQ} {B:Nat} (h:PrV p q B) (hr:p.r.l.length<=12) (hB:bd B (p.r.l.length-1)<=4398046511104):Ctr Tryz.prog cCt [] [.a p.C,.a b.C] [] (λg:cCs=>match g with
 |none=>⟨.t [.a cCr,.c (.v (.bool false))],[],¬BVal p q b⟩
 |some (x,rw,cl,Lw,Up)=>⟨.t [.a x.C,.c (.v (.bool true))],[],CorI p q b (bd B (brL b p.r.l.length).length) x rw cl Lw Up⟩):=by
 have hpc:=h.c
 have no:¬BVal p q b->∃g:cCs,(match g with|none=>(¬BVal p q b)|some _=>False):=λhh=>⟨none,hh⟩
 refine aX gT cUc cUd rfl rfl rfl bL aS (Sd.sq (aA gT mxd (Sd.sq (aA gT mxd (vP 3 0 3 1 rfl rfl bL rfl (vP 3 1 3 1 rfl rfl bL rfl (aA gT mxd ⟨λh2=>aA gT mxd ?_,λh2=>aA gT mxd ?_⟩)))))))
 ·replace h2:((b.c.l.length:Nat):Int)≠(p.c.l.length:Nat)\/((b.r.l.length:Nat):Int)≠(p.r.l.length:Nat):=h2
  exact⟨none,λhh=>by have:=hh.ok.c;have:=hh.ok.r;omega,aM ⟨rfl,rfl⟩ rfl trivial⟩
 replace h2:¬(((b.c.l.length:Nat):Int)≠(p.c.l.length:Nat)\/((b.r.l.length:Nat):Int)≠(p.r.l.length:Nat)):=h2
 have hbc:b.c.l.length=p.c.l.length:=by omega
 have hbr:b.r.l.length=p.r.l.length:=by omega
 show Sd _ _ _ _ _ _
 refine cE (λ_=>true) (λk:Nat=>bPr b k) (λk=>ncB p b (bcL b k) []) (λ_=>[]) (λk=>k<=p.c.l.length/\∀j,j<k->Pmt (p.c.l.getD j default) (b.c.l.getD j 0)) (λk=>p.c.l.length-k) λhM=>⟨bF hM (chg:=λk:Nat=>bPr b k) (bls:=λk=>ncB p b (bcL b k) []) (fls:=λ_=>[]) 0 ⟨aC _,λj hj=>absurd hj (aD _)⟩ rfl ⟨rfl,rfl,rfl,rfl,rfl,rfl⟩ trivial ⟨rfl,rfl,rfl,rfl,rfl,rfl,rfl⟩ bL aCd rfl,λk ⟨hk,hp⟩=>aA gT mxd ⟨λh3=>aA gT mxd ?_,λh3=>aA gT mxd ?_⟩⟩
 ·replace h3:(k:Int)<(b.c.l.length:Nat):=h3
  have hkn:k<p.c.l.length:=by omega
  have hkb:k<b.c.l.length:=by omega
  have hll:(bcL b k).length<=k:=iA
  refine⟨k,⟨rfl,hkb⟩,k,⟨rfl,hkn⟩,[],bSf (p.c.l.getD k default) (b.c.l.getD k 0),rfl,rfl,rfl,λ_ _=>⟨λh4=>aA gT mxd ?_,λh4=>aA gT mxd ⟨λh5=>aA gT mxd ?_,λh5=>aA gT mxd ?_⟩⟩⟩
  ·replace h4:¬Pmt (p.c.l.getD k default) (b.c.l.getD k 0):=h4
   exact⟨none,λhh=>h4 (hh.ok.pc k hkn),aM ⟨rfl,rfl⟩ rfl trivial⟩
  all_goals
   replace h4:Pmt (p.c.l.getD k default) (b.c.l.getD k 0):=dW.1 h4
   have hp':∀j,j<k+1->Pmt (p.c.l.getD j default) (b.c.l.getD j 0):=λj hj=>(cM (cV hj)).elim (hp j) λe=>e▸h4
  ·replace h5:b.c.l.getD k 0=2:=h5
   have hy:bcL b (k+1)=bcL b k++[(k:Int)]:=jM h5
   refine⟨apI (x:=bcL b k) (by show(bcL b k).length<=_;omega),(λc hc=>by cases hc),(λc hc=>by rw[aE.1 hc];rfl),(k+1:Nat),wi,bF hM (chg:=λk:Nat=>bPr b k) (bls:=λk=>ncB p b (bcL b k) []) (fls:=λ_=>[]) (k+1) ⟨⟨hkn,hp'⟩,show p.c.l.length-(k+1)<p.c.l.length-k by omega⟩ rfl ⟨rfl,rfl,rfl,?_,?_,rfl⟩ trivial ⟨rfl,rfl,rfl,rfl,rfl,rfl,rfl⟩ bL aCd rfl⟩
   ·show(_,_,CV.s 4 ((bcL b k).length+1)::_)=(_,_,CV.s 4 (bcL b (k+1)).length::_)
    rw[show(bcL b (k+1)).length=(bcL b k).length+1 by rw[hy];simp];rfl
   show(_,_,(bcL b k).map iC++[iC (k:Nat)])=(_,_,(bcL b (k+1)).map iC)
   rw[hy,bI];rfl
  replace h5:¬b.c.l.getD k 0=2:=h5
  have hy:bcL b (k+1)=bcL b k:=mR h5
  refine⟨(k+1:Nat),wi,bF hM (chg:=λk:Nat=>bPr b k) (bls:=λk=>ncB p b (bcL b k) []) (fls:=λ_=>[]) (k+1) ⟨⟨hkn,hp'⟩,show p.c.l.length-(k+1)<p.c.l.length-k by omega⟩ rfl ⟨rfl,rfl,rfl,?_,?_,rfl⟩ trivial ⟨rfl,rfl,rfl,rfl,rfl,rfl,rfl⟩ bL aCd rfl⟩
  ·show(_,_,CV.s 4 (bcL b k).length::_)=(_,_,CV.s 4 (bcL b (k+1)).length::_)
   rw[show bcL b (k+1)=bcL b k from hy]
  show(_,_,(bcL b k).map iC)=(_,_,(bcL b (k+1)).map iC)
  rw[show bcL b (k+1)=bcL b k from hy]
 replace h3:¬(k:Int)<(b.c.l.length:Nat):=h3
 obtain rfl:k=p.c.l.length:=by omega
 refine aA gT mxd ?_
 show Sd _ _ _ _ _ _
 refine cE (λ_=>true) (λk:Nat=>bPs b k) (λk=>ncB p b (bcL b p.c.l.length) (brL b k)) (λ_=>[]) (λk=>k<=p.r.l.length/\∀i,i<k->b.r.l.getD i 0=2\/b.r.l.getD i 0=dfR (p.r.l.getD i default).s) (λk=>p.r.l.length-k) λhM=>⟨bF hM (chg:=λk:Nat=>bPs b k) (bls:=λk=>ncB p b (bcL b p.c.l.length) (brL b k)) (fls:=λ_=>[]) 0 ⟨aC _,λj hj=>absurd hj (aD _)⟩ rfl ⟨rfl,rfl,rfl,rfl,rfl,rfl⟩ trivial ⟨rfl,rfl,rfl,rfl,rfl,rfl,rfl⟩ bL aCd rfl,λk ⟨hk,hq⟩=>aA gT mxd ⟨λh3=>aA gT mxd ?_,λh3=>aA gT mxd ?_⟩⟩
 ·replace h3:(k:Int)<(b.r.l.length:Nat):=h3
  have hkn:k<p.r.l.length:=by omega
  have hkb:k<b.r.l.length:=by omega
  have hll:(brL b k).length<=k:=iA
  refine⟨k,⟨rfl,hkb⟩,⟨λh4=>aA gT mxd ?_,λh4=>aA gT mxd ⟨k,⟨rfl,hkn⟩,[],bSh (p.r.l.getD k default),rfl,rfl,rfl,λ_ _=>⟨λh5=>aA gT mxd ?_,λh5=>aA gT mxd ?_⟩⟩⟩⟩
  ·replace h4:b.r.l.getD k 0=2:=h4
   have hy:brL b (k+1)=brL b k:=mR λhh=>hh h4
   have hq':∀i,i<k+1->b.r.l.getD i 0=2\/b.r.l.getD i 0=dfR (p.r.l.getD i default).s:=λj hj=>(cM (cV hj)).elim (hq j) λe=>e▸.inl h4
   refine⟨(k+1:Nat),wi,bF hM (chg:=λk:Nat=>bPs b k) (bls:=λk=>ncB p b (bcL b p.c.l.length) (brL b k)) (fls:=λ_=>[]) (k+1) ⟨⟨hkn,hq'⟩,show p.r.l.length-(k+1)<p.r.l.length-k by omega⟩ rfl ⟨rfl,rfl,rfl,?_,rfl,?_⟩ trivial ⟨rfl,rfl,rfl,rfl,rfl,rfl,rfl⟩ bL aCd rfl⟩
   ·show(_,_,_::CV.s 5 (brL b k).length::_)=(_,_,_::CV.s 5 (brL b (k+1)).length::_)
    rw[show brL b (k+1)=brL b k from hy]
   show(_,_,(brL b k).map iC)=(_,_,(brL b (k+1)).map iC)
   rw[show brL b (k+1)=brL b k from hy]
  ·replace h4:¬b.r.l.getD k 0=2:=h4
   replace h5:b.r.l.getD k 0≠dfR (p.r.l.getD k default).s:=h5
   exact⟨none,λhh=>(hh.ok.pr k hkn).elim h4 h5,aM ⟨rfl,rfl⟩ rfl trivial⟩
  replace h4:¬b.r.l.getD k 0=2:=h4
  replace h5:¬b.r.l.getD k 0≠dfR (p.r.l.getD k default).s:=h5
  have hy:brL b (k+1)=brL b k++[(k:Int)]:=jM h4
  have hq':∀i,i<k+1->b.r.l.getD i 0=2\/b.r.l.getD i 0=dfR (p.r.l.getD i default).s:=λj hj=>(cM (cV hj)).elim (hq j) λe=>e▸.inr (dW.1 h5)
  refine⟨apI (x:=brL b k) (by show(brL b k).length<=_;omega),(λc hc=>dB (bR _ c hc)),(λc hc=>by rw[aE.1 hc];rfl),(k+1:Nat),wi,bF hM (chg:=λk:Nat=>bPs b k) (bls:=λk=>ncB p b (bcL b p.c.l.length) (brL b k)) (fls:=λ_=>[]) (k+1) ⟨⟨hkn,hq'⟩,show p.r.l.length-(k+1)<p.r.l.length-k by omega⟩ rfl ⟨rfl,rfl,rfl,?_,rfl,?_⟩ trivial ⟨rfl,rfl,rfl,rfl,rfl,rfl,rfl⟩ bL aCd rfl⟩
  ·show(_,_,_::CV.s 5 ((brL b k).length+1)::_)=(_,_,_::CV.s 5 (brL b (k+1)).length::_)
   rw[show(brL b (k+1)).length=(brL b k).length+1 by rw[hy];simp];rfl
  show(_,_,(brL b k).map iC++[iC (k:Nat)])=(_,_,(brL b (k+1)).map iC)
  rw[hy,bI];rfl
 replace h3:¬(k:Int)<(b.r.l.length:Nat):=h3
 obtain rfl:k=p.r.l.length:=by omega
 have hok:BasOk p b:=⟨hbc,hbr,hp,hq⟩
 have hnl:(brL b p.r.l.length).length<=p.r.l.length:=iA
 show Sd _ _ _ _ _ _
 refine kU tSd 5 rfl bL (bR _) bL rfl λA a1=>⟨_,mA kB (bR _),jQ tSd 3 0 [.s 4 (bcL b p.c.l.length).length,cI ⟨A.map λb=>⟨b,0,none⟩,a1,brL b p.r.l.length⟩,.v (.slice none 0 0),.v (.slice none 0 0),iC 0,iC 0,.v (.slice none 0 0),iC 0,iC 0,.v (.slice none 0 0)] rfl rfl rfl rfl (qW (k0:=1) rfl aGh) ?_⟩
 refine kU tSd 4 rfl bL (bR _) bL rfl λA2 a2=>⟨_,rfl,jQ tSd 3 1 [cI ⟨A2.map λb=>⟨b,0,none⟩,a2,bcL b p.c.l.length⟩,cI ⟨A.map λb=>⟨b,0,none⟩,a1,brL b p.r.l.length⟩,.v (.slice none 0 0),.v (.slice none 0 0),iC 0,iC 0,.v (.slice none 0 0),iC 0,iC 0,.v (.slice none 0 0)] rfl rfl rfl rfl (qW (k0:=0) rfl aGh) ?_⟩
 obtain⟨C,hC⟩:∃C:Sl Int,C=⟨A2.map λb=>⟨b,0,none⟩,a2,bcL b p.c.l.length⟩:=⟨_,rfl⟩
 obtain⟨R,hR⟩:∃R:Sl Int,R=⟨A.map λb=>⟨b,0,none⟩,a1,brL b p.r.l.length⟩:=⟨_,rfl⟩
 rw[<-hC,<-hR]
 have hCl:C.l=bcL b p.c.l.length:=by rw[hC]
 have hRl:R.l=brL b p.r.l.length:=by rw[hR]
 refine aA gT mxd ⟨λh4=>aA gT mxd ?_,λh4=>aA gT mxd ⟨[],bSj p R C h (bPq p b C R hCl hRl hpc oM),rfl,rfl,rfl,λm hm=>?_⟩⟩
 ·replace h4:((C.l.length:Nat):Int)≠(R.l.length:Nat):=h4
  rw[hCl,hRl] at h4
  exact⟨none,λhh=>by have:=hh.n;omega,aM ⟨rfl,rfl⟩ rfl trivial⟩
 replace h4:¬((C.l.length:Nat):Int)≠(R.l.length:Nat):=h4
 replace hm:Mr m (λk=>jL (atN (bcL b p.c.l.length)) C.l.length (q.M (atN (brL b p.r.l.length) k))) R.l.length C.l.length B:=hm
 have hCR:C.l.length=R.l.length:=by omega
 have hn:(bcL b p.c.l.length).length=(brL b p.r.l.length).length:=by rw[<-hCl,<-hRl];exact hCR
 rw[hCR,hRl,<-hn,hn] at hm
 have hmE:Mr m (aAv p q b) (brL b p.r.l.length).length (brL b p.r.l.length).length B:=by
  have e:aAv p q b=λk=>jL (atN (bcL b p.c.l.length)) (brL b p.r.l.length).length (q.M (atN (brL b p.r.l.length) k)):=funext λk=>by unfold aAv;rw[hn]
  rw[e];exact hm
 have hrb:rbM (aAv p q b) (brL b p.r.l.length).length B:=λi hi=>aKx (h.e _ ((gJ (P:=λi=>b.r.l.getD i 0≠2) p.r.l.length).1.lt i hi))
 refine⟨[],bHk m hmE hrb h.h1 (aJ (kY oM) hB) oM,rfl,rfl,rfl,λg hg=>?_⟩
 cases g with
 |none=>
  refine⟨λh5=>aA gT mxd ?_,λh5=>absurd (show((6:Int)≠0) by decide) h5⟩
  exact⟨none,λhh=>hh.k hg,aM ⟨rfl,rfl⟩ rfl trivial⟩
 |some g=>
  obtain⟨f,rw',cl,Lw,Up⟩:=g
  obtain⟨⟨g1,g2,g3,g4⟩,g5,g6,g7⟩:=hg
  refine⟨λh5=>absurd rfl h5,λh5=>aA gT mxd ⟨some (⟨C,R,f⟩,rw',cl,Lw,Up),⟨⟨hok,hn,g5.nk⟩,hCl,hRl,⟨g1,g2,g3,g4,g5,g6,g7⟩⟩,aM ⟨rfl,rfl⟩ rfl trivial⟩⟩
abbrev bPt:FuncId:=20
theorem cUe:Ent Tryz.prog bPt:=aU func20 rfl kR
theorem cUf:Tryz.prog.funcs[bPt]? =some Tryz.f20:=func20
theorem cNt (p:ProgM) (b:BasM) {q:PrQ} {B:Nat} (h:PrV p q B) (hr:p.r.l.length<=12) (hB:bd B (p.r.l.length-1)<=4398046511104):Ctr Tryz.prog bPt [] [.a p.C,.a b.C] [] (λ_:Unit=>⟨pC (BVal p q b),[],True⟩):=by
 refine aX gT cUe cUf rfl rfl rfl bL aS (aA gT mxd ⟨[],aKu p h,rfl,rfl,rfl,λ_ _=>⟨λhh=>absurd rfl hh,λ_=>aA gT mxd ⟨[],bSr p b h hr hB,rfl,rfl,rfl,λg hg=>?_⟩⟩⟩)
 cases g with
 |none=>exact⟨(),trivial,aM (ff hg) rfl trivial⟩
 |some g=>exact⟨(),trivial,aM (tt hg.v) rfl trivial⟩
abbrev cCu:FuncId:=70
theorem cUg:Ent Tryz.prog cCu:=aU func70 rfl kR
theorem cUh:Tryz.prog.funcs[cCu]? =some Tryz.f70:=func70
theorem bSs (p:ProgM) (b:BasM) {q:PrQ} {B:Nat} (h:PrV p q B) (hr:p.r.l.length<=12) (hB:bd B (p.r.l.length-1)<=4398046511104):Ctr Tryz.prog cCu [] [.a p.C,.a b.C] [] (λg:cCs=>match g with
 |none=>⟨.t [.a cCr,.c (iC 1)],[],¬BVal p q b⟩
 |some (x,rw,cl,Lw,Up)=>⟨.t [.a x.C,.c (iC 0)],[],CorI p q b (bd B (brL b p.r.l.length).length) x rw cl Lw Up⟩):=by
 refine aX gT cUg cUh rfl rfl rfl bL aS (aA gT mxd ⟨[],aKu p h,rfl,rfl,rfl,λ_ _=>⟨λhh=>absurd rfl hh,λ_=>aA gT mxd ⟨[],bSr p b h hr hB,rfl,rfl,rfl,λg hg=>?_⟩⟩⟩)
 cases g with
 |none=>exact⟨none,hg,aM ⟨rfl,rfl⟩ rfl trivial⟩
 |some g=>exact⟨some g,hg,aM ⟨rfl,rfl⟩ rfl trivial⟩
structure PrC (p:ProgM) (q:PrQ):Prop where
 k:∀j,j<p.c.l.length->Cr (p.c.l.getD j default).k (q.k j)
 b:∀i,i<p.r.l.length->Cr (p.r.l.getD i default).b (q.b i)
def x0N (q:PrQ) (b:BasM) (j:Nat):Rat:=if b.c.l.getD j 0=0 then q.l j else if b.c.l.getD j 0=1 then q.u j else 0
def rsN (q:PrQ) (b:BasM) (i t:Nat):Rat:=q.b i-dtl ((q.M i).take t) (x0N q b)
structure PtR (p:ProgM) (q:PrQ) (b:BasM) (Bx:Nat) (qs:List Rat):Prop where
 ln:qs.length=p.c.l.length
 x0:∀j,j<p.c.l.length->b.c.l.getD j 0≠2->lQ qs j=x0N q b j
 ti:∀i,i<p.r.l.length->b.r.l.getD i 0≠2->dtl (q.M i) (lQ qs)=q.b i
 rb:rbL qs Bx
abbrev aOq (x:CorM) (p:ProgM) (b:BasM) (X:Nat->RatM):BL:=[(113,0,x.C),(42,0,p.C),(45,0,b.C),(62,3,rtC p.c.l.length X)]
theorem aDr {x:CorM} {p:ProgM} {b:BasM} {X:Nat->RatM}:scB 4 (aOq x p b X):=aB rfl (aB rfl (aB rfl (aB (bU eB) aZ)))
abbrev aOr (x:CorM) (p:ProgM) (b:BasM) (X Z:Nat->RatM):BL:=aOq x p b X++[(62,3,rtC x.r.l.length Z)]
theorem aAw {x:CorM} {p:ProgM} {b:BasM} {X Z:Nat->RatM}:scB 5 (aOr x p b X Z):=aB rfl (aB rfl (aB rfl (aB (bU eB) (aB (bU eB) aZ))))
abbrev bIz (p:ProgM) (k:Nat):List (Nat×DV):=[(26,.c (iC k)),(24,.c (aAs p.c)),(25,.c (iC (p.c.l.length:Nat))),(3,.c (.p 0 0)),(4,.c (.p 1 0)),(5,.c (.p 2 0)),(7,.c (.s 3 p.c.l.length))]
abbrev bPu (x:CorM) (p:ProgM) (k:Nat):List (Nat×DV):=[(64,.c (iC k)),(62,.c (cI x.r)),(63,.c (iC (x.r.l.length:Nat))),(3,.c (.p 0 0)),(4,.c (.p 1 0)),(5,.c (.p 2 0)),(7,.c (.s 3 p.c.l.length)),(10,.c (.s 4 x.r.l.length))]
abbrev bPv (x:CorM) (p:ProgM) (k i t:Nat):List (Nat×DV):=(85,.c (iC t))::(83,.c (cC (p.r.l.getD i default).e))::(84,.c (iC ((p.r.l.getD i default).e.l.length:Nat)))::(11,.c (iC k))::bPu x p k
theorem bJa (b:BasM) (n:Nat):Enm (λj=>b.c.l.getD j 0=2) n (bcL b n).length (atN (bcL b n))/\∀k,k<(bcL b n).length->(bcL b n).getD k 0=(atN (bcL b n) k:Nat):=gJ n
theorem bJb (b:BasM) (n:Nat):Enm (λi=>b.r.l.getD i 0≠2) n (brL b n).length (atN (brL b n))/\∀k,k<(brL b n).length->(brL b n).getD k 0=(atN (brL b n) k:Nat):=gJ n
theorem bJc {q:PrQ} {b:BasM} {i:Nat}:rsN q b i 0=q.b i:=by
 unfold rsN;rw[xT,show dtl ([]:List En) (x0N q b)=0 from rfl];grind
theorem bJd {p:ProgM} {q:PrQ} {B:Nat} (h:PrV p q B) {b:BasM} {j:Nat} (hj:j<p.c.l.length):rb (x0N q b j) B:=by
 unfold x0N
 have hc:=h.rd.c j hj
 split
 ·exact hc.l.rb h.h1
 split
 ·exact hc.u.rb h.h1
 exact aAk h.h1
theorem bSt {p:ProgM} {q:PrQ} {B:Nat} (h:PrV p q B) {b:BasM} {i t:Nat} (hi:i<p.r.l.length) (ht:t<=(q.M i).length):rb (rsN q b i t) (2+B+p.c.l.length*(B+B+1)):=by
 have h1:=(h.rd.r i hi).b.rb h.h1
 have hv:=h.v i hi
 have h2:=aSf (x:=x0N q b) (es:=(q.M i).take t) (λe he=>h.e i hi e (cT he)) λe he=>bJd (b:=b) h (by have:=hv.2.2 e (cT he);omega)
 have h3:((q.M i).take t).length*(B+B+1)<=p.c.l.length*(B+B+1):=aV _ (by rw[bG];have:=h.len hi;omega)
 exact(pP h1 h2).le oM
abbrev bPw (x:CorM) (p:ProgM) (b:BasM) (X W:Nat->RatM):BL:=aOq x p b X++[(62,3,[]),(62,3,rtC x.r.l.length W)]
theorem aWn {x:CorM} {p:ProgM} {b:BasM} {X W:Nat->RatM}:scB 6 (bPw x p b X W):=aB rfl (aB rfl (aB rfl (aB (bU eB) (aB rfl (aB (bU eB) aZ)))))
abbrev cCv (x:CorM) (p:ProgM) (k:Nat):List (Nat×DV):=[(124,.c (iC k)),(122,.c (cI x.c)),(123,.c (iC (x.c.l.length:Nat))),(7,.c (.s 3 p.c.l.length)),(15,.c (.s 5 x.r.l.length))]
abbrev cCw:FuncId:=71
theorem cUi:Ent Tryz.prog cCw:=aU func71 rfl kR
theorem cUj:Tryz.prog.funcs[cCw]? =some Tryz.f71:=func71
theorem cNu (x:CorM) (p:ProgM) (b:BasM) {q:PrQ} {B:Nat} {rw cl:Nat->Nat} {Lw Up:Nat->List En} (h:PrV p q B) (hc:PrC p q) (hI:CorI p q b (bd B (brL b p.r.l.length).length) x rw cl Lw Up) (hS:yb (zb (2+B+p.c.l.length*(B+B+1)) (bd B (brL b p.r.l.length).length) (brL b p.r.l.length).length) (bd B (brL b p.r.l.length).length) (brL b p.r.l.length).length<=4398046511104):Ctr Tryz.prog cCw [] [.a x.C,.a p.C,.a b.C] [] (λg:Sl RatM×List Rat=>⟨.c (eY g.1),[],Rl g.1.l g.2/\PtR p q b (B+yb (zb (2+B+p.c.l.length*(B+B+1)) (bd B (brL b p.r.l.length).length) (brL b p.r.l.length).length) (bd B (brL b p.r.l.length).length) (brL b p.r.l.length).length) g.2⟩):=by
 obtain⟨m,hm⟩:∃m,m=(brL b p.r.l.length).length:=⟨_,rfl⟩
 obtain⟨F,hF⟩:∃F,F=bd B m:=⟨_,rfl⟩
 obtain⟨Br,hBr⟩:∃Br,Br=2+B+p.c.l.length*(B+B+1):=⟨_,rfl⟩
 obtain⟨Y,hY⟩:∃Y,Y=yb (zb Br F m) F m:=⟨_,rfl⟩
 rw[<-hm,<-hF,<-hBr,<-hY] at hS ⊢
 have hIf:=hI.f
 rw[<-hm,<-hF] at hIf
 have hpc:=h.c
 have hpr:=h.r
 have hBB:=h.hB
 have h1:=h.h1
 have hbok:=hI.v.ok
 have hxr:x.r.l.length=m:=by rw[hI.r,hm]
 have hxc:x.c.l.length=m:=by rw[hI.c,hI.v.n,hm]
 obtain⟨e1,e2⟩:=bJa b p.c.l.length
 obtain⟨f1,f2⟩:=bJb b p.r.l.length
 have hml:m<=p.r.l.length:=by rw[hm];exact iA
 have hBrS:Br<=4398046511104:=by
  have a1:zb Br F m<=Y:=by rw[hY];exact aOa (aC m)
  have a2:Br<=zb Br F m:=aWa (aC m)
  omega
 refine aX gT cUi cUj rfl rfl rfl bL aS (aA gT mxd ⟨p.c.l.length,⟨rfl,rfl,by show 56*_<=_;omega,by simp only[maxLen];omega⟩,?_⟩)
 show Sd _ _ _ _ _ _
 refine gG tSd 3 (rtC p.c.l.length λ_=>default) rfl kZ.1 kZ.2 ?_
 refine cE (λ_=>true) (λg:Nat×(Nat->RatM)=>bIz p g.1) (λg=>aOq x p b g.2) (λ_=>[]) (λg=>g.1<=p.c.l.length/\∀j,j<g.1->Cr (g.2 j) (x0N q b j)) (λg=>p.c.l.length-g.1) λhM=>⟨bF hM (chg:=λg:Nat×(Nat->RatM)=>bIz p g.1) (bls:=λg=>aOq x p b g.2) (fls:=λ_=>[]) (0,λ_=>default) ⟨aC _,λj hj=>absurd hj (aD _)⟩ rfl ⟨rfl,rfl,rfl,rfl⟩ trivial ⟨rfl,rfl,rfl,rfl,rfl,rfl,rfl⟩ bL aDr rfl,λ⟨k,X⟩ ⟨hk,hX⟩=>aA gT mxd ⟨λh2=>aA gT mxd ?_,λh2=>aA gT mxd ?_⟩⟩
 all_goals
  replace hk:k<=p.c.l.length:=hk
  replace hX:∀j,j<k->Cr (X j) (x0N q b j):=hX
 ·replace h2:(k:Int)<(p.c.l.length:Nat):=h2
  have hkn:k<p.c.l.length:=by omega
  have hbl:=hbok.c
  have hcol:=h.rd.c k hkn
  have fin:∀g:RatM,Cr g (x0N q b k)->∀j,j<k+1->Cr (upd X k g j) (x0N q b j):=λg hg j hj=>by
   by_cases e:j=k
   ·subst e;rw[bH];exact hg
   rw[bA e];exact hX j oM
  refine⟨k,⟨rfl,hkn⟩,k,⟨rfl,by omega⟩,⟨λh3=>aA gT mxd ?_,λh3=>aA gT mxd ⟨λh4=>aA gT mxd ?_,λh4=>aA gT mxd ?_⟩⟩⟩
  ·replace h3:b.c.l.getD k 0=0:=h3
   have e:x0N q b k=q.l k:=if_pos h3
   exact⟨[],oB (p.c.l.getD k default).l (hcol.l.le hBB),rfl,rfl,rfl,λg hg=>⟨k,⟨rfl,hkn,fE hkn⟩,_,gO hkn,(k+1:Nat),wi,bF hM (chg:=λg:Nat×(Nat->RatM)=>bIz p g.1) (bls:=λg=>aOq x p b g.2) (fls:=λ_=>[]) (k+1,upd X k g) ⟨⟨hkn,fin g (by rw[e];exact hg)⟩,show p.c.l.length-(k+1)<p.c.l.length-k by omega⟩ rfl ⟨rfl,rfl,rfl,rfl⟩ trivial ⟨rfl,rfl,rfl,rfl,rfl,rfl,rfl⟩ bL aDr rfl⟩⟩
  ·replace h3:¬b.c.l.getD k 0=0:=h3
   replace h4:b.c.l.getD k 0=1:=h4
   have e:x0N q b k=q.u k:=(if_neg h3).trans (if_pos h4)
   exact⟨[],oB (p.c.l.getD k default).u (hcol.u.le hBB),rfl,rfl,rfl,λg hg=>⟨k,⟨rfl,hkn,fE hkn⟩,_,gO hkn,(k+1:Nat),wi,bF hM (chg:=λg:Nat×(Nat->RatM)=>bIz p g.1) (bls:=λg=>aOq x p b g.2) (fls:=λ_=>[]) (k+1,upd X k g) ⟨⟨hkn,fin g (by rw[e];exact hg)⟩,show p.c.l.length-(k+1)<p.c.l.length-k by omega⟩ rfl ⟨rfl,rfl,rfl,rfl⟩ trivial ⟨rfl,rfl,rfl,rfl,rfl,rfl,rfl⟩ bL aDr rfl⟩⟩
  replace h3:¬b.c.l.getD k 0=0:=h3
  replace h4:¬b.c.l.getD k 0=1:=h4
  have e:x0N q b k=((0:Int):Rat):=(if_neg h3).trans (if_neg h4)
  exact⟨[],yG (z:=0) dC,rfl,rfl,rfl,λg hg=>⟨k,⟨rfl,hkn,fE hkn⟩,_,gO hkn,(k+1:Nat),wi,bF hM (chg:=λg:Nat×(Nat->RatM)=>bIz p g.1) (bls:=λg=>aOq x p b g.2) (fls:=λ_=>[]) (k+1,upd X k g) ⟨⟨hkn,fin g (by rw[e];exact hg)⟩,show p.c.l.length-(k+1)<p.c.l.length-k by omega⟩ rfl ⟨rfl,rfl,rfl,rfl⟩ trivial ⟨rfl,rfl,rfl,rfl,rfl,rfl,rfl⟩ bL aDr rfl⟩⟩
 replace h2:¬(k:Int)<(p.c.l.length:Nat):=h2
 obtain rfl:k=p.c.l.length:=by omega
 refine aA gT mxd ⟨x.r.l.length,⟨rfl,rfl,by show 56*_<=_;omega,by simp only[maxLen];omega⟩,?_⟩
 show Sd _ _ _ _ _ _
 refine gG tSd 4 (rtC x.r.l.length λ_=>default) rfl kZ.1 kZ.2 ?_
 refine cE (λ_=>true) (λg:Nat×(Nat->RatM)=>bPu x p g.1) (λg=>aOr x p b X g.2) (λ_=>[]) (λg=>g.1<=x.r.l.length/\∀j,j<g.1->Cr (g.2 j) (rsN q b (atN (brL b p.r.l.length) j) (q.M (atN (brL b p.r.l.length) j)).length)) (λg=>x.r.l.length-g.1) λhM=>⟨bF hM (chg:=λg:Nat×(Nat->RatM)=>bPu x p g.1) (bls:=λg=>aOr x p b X g.2) (fls:=λ_=>[]) (0,λ_=>default) ⟨aC _,λj hj=>absurd hj (aD _)⟩ rfl ⟨rfl,rfl,rfl,rfl,rfl⟩ trivial ⟨rfl,rfl,rfl,rfl,rfl,rfl,rfl,rfl⟩ bL aAw rfl,λ⟨k,Z⟩ ⟨hk,hZ⟩=>aA gT mxd ⟨λh3=>aA gT mxd ?_,λh3=>aA gT mxd ?_⟩⟩
 all_goals
  replace hk:k<=x.r.l.length:=hk
  replace hZ:∀j,j<k->Cr (Z j) (rsN q b (atN (brL b p.r.l.length) j) (q.M (atN (brL b p.r.l.length) j)).length):=hZ
 ·replace h3:(k:Int)<(x.r.l.length:Nat):=h3
  have hkn:k<x.r.l.length:=by omega
  have hkm:k<(brL b p.r.l.length).length:=by omega
  have r1:x.r.l.getD k 0=(atN (brL b p.r.l.length) k:Nat):=by rw[hI.r];exact f2 k hkm
  have r2:atN (brL b p.r.l.length) k<p.r.l.length:=f1.lt k hkm
  have hrow:=h.rd.r _ r2
  have hv:=h.v _ r2
  have hle:(p.r.l.getD (atN (brL b p.r.l.length) k) default).e.l.length=(q.M (atN (brL b p.r.l.length) k)).length:=hrow.e.ln
  have hlen:=h.len r2
  refine⟨k,⟨rfl,hkn⟩,atN (brL b p.r.l.length) k,⟨r1,r2⟩,k,⟨rfl,hkn,fE hkn⟩,_,gO hkn,atN (brL b p.r.l.length) k,⟨r1,r2⟩,?_⟩
  show Sd _ _ _ _ _ _
  refine cE (λ_=>true) (λg:Nat×(Nat->RatM)=>bPv x p k (atN (brL b p.r.l.length) k) g.1) (λg=>aOr x p b X g.2) (λ_=>[]) (λg=>g.1<=(q.M (atN (brL b p.r.l.length) k)).length/\(∀j,j<k->Cr (g.2 j) (rsN q b (atN (brL b p.r.l.length) j) (q.M (atN (brL b p.r.l.length) j)).length))/\Cr (g.2 k) (rsN q b (atN (brL b p.r.l.length) k) g.1)) (λg=>(q.M (atN (brL b p.r.l.length) k)).length-g.1) λhM2=>⟨bF hM2 (chg:=λg:Nat×(Nat->RatM)=>bPv x p k (atN (brL b p.r.l.length) k) g.1) (bls:=λg=>aOr x p b X g.2) (fls:=λ_=>[]) (0,upd Z k (p.r.l.getD (atN (brL b p.r.l.length) k) default).b) ⟨aC _,λj hj=>?_,?_⟩ rfl ⟨rfl,rfl,rfl,rfl,rfl⟩ trivial ⟨rfl,rfl,rfl,rfl,rfl,rfl,rfl,rfl,rfl,rfl,rfl,rfl⟩ bL aAw rfl,λ⟨t,Z⟩ ⟨ht,hZ,hZk⟩=>aA gT mxd ⟨λh4=>aA gT mxd ?_,λh4=>aA gT mxd ?_⟩⟩
  ·show Cr (upd Z k _ j) _
   rw[bA oM];exact hZ j hj
  ·show Cr (upd Z k _ k) _
   rw[bH,bJc];exact hc.b _ r2
  all_goals
   replace ht:t<=(q.M (atN (brL b p.r.l.length) k)).length:=ht
   replace hZ:∀j,j<k->Cr (Z j) (rsN q b (atN (brL b p.r.l.length) j) (q.M (atN (brL b p.r.l.length) j)).length):=hZ
   replace hZk:Cr (Z k) (rsN q b (atN (brL b p.r.l.length) k) t):=hZk
  ·replace h4:(t:Int)<((p.r.l.getD (atN (brL b p.r.l.length) k) default).e.l.length:Nat):=h4
   have htl:t<(q.M (atN (brL b p.r.l.length) k)).length:=by omega
   have hte:t<(p.r.l.getD (atN (brL b p.r.l.length) k) default).e.l.length:=by omega
   have he:=hrow.e.e t htl
   have hvt:=hv.2.2 _ (fN htl)
   obtain⟨e0,he0⟩:∃e0:Nat,((q.M (atN (brL b p.r.l.length) k)).getD t default).1=(e0:Nat):=⟨((q.M (atN (brL b p.r.l.length) k)).getD t default).1.toNat,by omega⟩
   have hec:e0<p.c.l.length:=by omega
   have hix:((p.r.l.getD (atN (brL b p.r.l.length) k) default).e.l.getD t default).ix=(e0:Nat):=he.1.trans he0
   have hx0:=hX e0 hec
   have rx0:=bJd (b:=b) h hec
   have re:=h.e _ r2 _ (fN htl)
   have hnx:rsN q b (atN (brL b p.r.l.length) k) (t+1)=rsN q b (atN (brL b p.r.l.length) k) t-((q.M (atN (brL b p.r.l.length) k)).getD t default).2*x0N q b e0:=by
    unfold rsN
    rw[aOe htl,he0,cJ];grind
   have hrs:=bSt (b:=b) h r2 (t:=t) oM
   rw[<-hBr] at hrs
   have hmb:B+B<=4398046511104:=by
    have:1*(B+B+1)<=p.c.l.length*(B+B+1):=aV _ oM
    omega
   refine⟨t,⟨rfl,hte⟩,e0,⟨hix,hec,fE hec⟩,_,lE hec,[],kA (X e0) (hx0.rq (rx0.le hBB)),rfl,rfl,rfl,λ_ _=>⟨λh5=>aA gT mxd ?_,λh5=>aA gT mxd ?_⟩⟩
   ·refine⟨.seq [(0,false),(1,false),(2,false),(3,false),(4,false),(5,false),(6,false),(7,false),(8,false),(9,false),(10,false),(11,false),(12,false),(13,false),(14,true),(15,false),(16,true)],by kernel_rfl,k,⟨rfl,hkn,fE hkn⟩,_,lE hkn,e0,⟨hix,hec,fE hec⟩,_,lE hec,[],xC ((p.r.l.getD (atN (brL b p.r.l.length) k) default).e.l.getD t default).v (X e0) (he.2.le hBB) (hx0.rq (rx0.le hBB)),rfl,rfl,rfl,λg hg=>⟨[],aKa (Z k) g (hZk.rq (hrs.le hBrS)) (Cr.rq hg ((fS re rx0).le hmb)),rfl,rfl,rfl,λd hd=>⟨k,⟨rfl,hkn,fE hkn⟩,_,gO hkn,(t+1:Nat),wi,bF hM2 (chg:=λg:Nat×(Nat->RatM)=>bPv x p k (atN (brL b p.r.l.length) k) g.1) (bls:=λg=>aOr x p b X g.2) (fls:=λ_=>[]) (t+1,upd Z k d) ⟨⟨htl,λj hj=>?_,?_⟩,show(q.M (atN (brL b p.r.l.length) k)).length-(t+1)<(q.M (atN (brL b p.r.l.length) k)).length-t by omega⟩ rfl ⟨rfl,rfl,rfl,rfl,rfl⟩ trivial ⟨rfl,rfl,rfl,rfl,rfl,rfl,rfl,rfl,rfl,rfl,rfl,rfl⟩ bL aAw rfl⟩⟩⟩
    ·show Cr (upd Z k d j) _
     rw[bA oM];exact hZ j hj
    show Cr (upd Z k d k) (rsN q b _ (t+1))
    rw[bH,hnx];exact hd
   have h0:x0N q b e0=0:=cX.1 (fJ.1 (dW.1 h5))
   refine⟨(t+1:Nat),wi,bF hM2 (chg:=λg:Nat×(Nat->RatM)=>bPv x p k (atN (brL b p.r.l.length) k) g.1) (bls:=λg=>aOr x p b X g.2) (fls:=λ_=>[]) (t+1,Z) ⟨⟨htl,hZ,?_⟩,show(q.M (atN (brL b p.r.l.length) k)).length-(t+1)<(q.M (atN (brL b p.r.l.length) k)).length-t by omega⟩ rfl ⟨rfl,rfl,rfl,rfl,rfl⟩ trivial ⟨rfl,rfl,rfl,rfl,rfl,rfl,rfl,rfl,rfl,rfl,rfl,rfl⟩ bL aAw rfl⟩
   show Cr (Z k) (rsN q b _ (t+1))
   rw[hnx,h0,bZ,aOb];exact hZk
  replace h4:¬(t:Int)<((p.r.l.getD (atN (brL b p.r.l.length) k) default).e.l.length:Nat):=h4
  have htt:t=(q.M (atN (brL b p.r.l.length) k)).length:=by omega
  rw[htt] at hZk
  exact⟨(k+1:Nat),wi,bF hM (chg:=λg:Nat×(Nat->RatM)=>bPu x p g.1) (bls:=λg=>aOr x p b X g.2) (fls:=λ_=>[]) (k+1,Z) ⟨⟨hkn,λj hj=>(cM (cV hj)).elim (hZ j) λe=>e▸hZk⟩,show x.r.l.length-(k+1)<x.r.l.length-k by omega⟩ rfl ⟨rfl,rfl,rfl,rfl,rfl⟩ trivial ⟨rfl,rfl,rfl,rfl,rfl,rfl,rfl,rfl⟩ bL aAw rfl⟩
 replace h3:¬(k:Int)<(x.r.l.length:Nat):=h3
 obtain rfl:k=x.r.l.length:=by omega
 have hIf':LuG x.f (aAv p q b) x.r.l.length rw cl Lw Up F:=by rw[hxr];exact hIf
 have hS':yb (zb Br F x.r.l.length) F x.r.l.length<=4398046511104:=by rw[hxr,<-hY];exact hS
 have hF1:1<=F:=by rw[hF];exact vO h1 m
 have hFF:F<=4398046511104:=by
  rcases cF m with e|e
  ·rw[hF,e];exact hBB
  have a1:F<=yb (zb Br F m) F 1:=Nat.le_add_left _ _
  have a2:yb (zb Br F m) F 1<=Y:=by rw[hY];exact aOa e
  omega
 have hkap:∀l,l<x.c.l.length->x.c.l.getD l 0=(atN (bcL b p.c.l.length) l:Nat)/\atN (bcL b p.c.l.length) l<p.c.l.length/\b.c.l.getD (atN (bcL b p.c.l.length) l) 0=2:=λl hl=>by
  have hl':l<(bcL b p.c.l.length).length:=by rw[<-hI.c];exact hl
  exact⟨by rw[hI.c];exact e2 l hl',e1.lt l hl',e1.mem l hl'⟩
 have hkinj:∀l l',l<x.c.l.length->l'<x.c.l.length->atN (bcL b p.c.l.length) l=atN (bcL b p.c.l.length) l'->l=l':=λl l' hl hl' he=>e1.inj (by rw[<-hI.c];exact hl) (by rw[<-hI.c];exact hl') he
 show Sd _ _ _ _ _ _
 refine rR 10 4 (λj=>((mW Z x.r.l.length).getD j default).C) rfl rfl (λj hj=>yH j hj) (by rw[nJ (P:=λj=>(Z j).C) (e:=3) λ_ _=>rfl]) bL eB bL λA c _ _=>⟨λc hc=>dB (eB c hc),?_⟩
 have hct:=bHp x.f ⟨A,c,mW Z x.r.l.length⟩ (bv:=λk=>rsN q b (atN (brL b p.r.l.length) k) (q.M (atN (brL b p.r.l.length) k)).length) (B:=Br) hIf' hF1 oM pQ (λk hk=>⟨by show Cr ((mW Z x.r.l.length).getD k default) _;rw[vJ hk];exact hZ k hk,by rw[hBr];exact bSt (b:=b) h (f1.lt k (by rw[<-hI.r];exact hk)) (aI _)⟩) oM hFF hS'
 rw[show eY ⟨A,c,mW Z x.r.l.length⟩=CV.r A x.r.l.length c 3 (λj=>((mW Z x.r.l.length).getD j default).C) from aBy.symm] at hct
 refine aA gT mxd ⟨[],hct,rfl,rfl,rfl,λ⟨W,w⟩ ⟨hSol,hW⟩=>?_⟩
 replace hSol:Sol (aAv p q b) x.r.l.length (λk=>rsN q b (atN (brL b p.r.l.length) k) (q.M (atN (brL b p.r.l.length) k)).length) w:=hSol
 replace hW:∀c,c<x.r.l.length->Cr (W c) (w c)/\rb (w c) (yb (zb Br F x.r.l.length) F x.r.l.length):=hW
 rw[hxr,<-hY,<-hxr] at hW
 show Sd _ _ _ _ _ _
 refine cE (λ_=>true) (λg:Nat×(Nat->RatM)=>cCv x p g.1) (λg=>bPw x p b g.2 W) (λ_=>[]) (λg=>g.1<=x.c.l.length/\(∀l,l<g.1->Cr (g.2 (atN (bcL b p.c.l.length) l)) (w l))/\∀j,j<p.c.l.length->(∀l,l<g.1->atN (bcL b p.c.l.length) l≠j)->Cr (g.2 j) (x0N q b j)) (λg=>x.c.l.length-g.1) λhM3=>⟨bF hM3 (chg:=λg:Nat×(Nat->RatM)=>cCv x p g.1) (bls:=λg=>bPw x p b g.2 W) (fls:=λ_=>[]) (0,X) ⟨aC _,λl hl=>absurd hl (aD _),λj hj _=>hX j hj⟩ rfl ⟨rfl,rfl,rfl,rfl,rfl,rfl⟩ trivial ⟨rfl,rfl,rfl,rfl,rfl⟩ bL aWn rfl,λ⟨k,X'⟩ ⟨hk,hb1,hb2⟩=>aA gT mxd ⟨λh6=>aA gT mxd ?_,λh6=>aA gT mxd ?_⟩⟩
 all_goals
  replace hk:k<=x.c.l.length:=hk
  replace hb1:∀l,l<k->Cr (X' (atN (bcL b p.c.l.length) l)) (w l):=hb1
  replace hb2:∀j,j<p.c.l.length->(∀l,l<k->atN (bcL b p.c.l.length) l≠j)->Cr (X' j) (x0N q b j):=hb2
 ·replace h6:(k:Int)<(x.c.l.length:Nat):=h6
  have hkn:k<x.c.l.length:=by omega
  have hkr:k<x.r.l.length:=by omega
  obtain⟨c1,c2,c3⟩:=hkap k hkn
  refine⟨k,⟨rfl,hkn⟩,k,⟨rfl,hkr,fE hkr⟩,_,lE hkr,atN (bcL b p.c.l.length) k,⟨c1,c2,fE c2⟩,_,gO c2,(k+1:Nat),wi,bF hM3 (chg:=λg:Nat×(Nat->RatM)=>cCv x p g.1) (bls:=λg=>bPw x p b g.2 W) (fls:=λ_=>[]) (k+1,upd X' (atN (bcL b p.c.l.length) k) (W k)) ⟨⟨hkn,λl hl=>?_,λj hj hno=>?_⟩,show x.c.l.length-(k+1)<x.c.l.length-k by omega⟩ rfl ⟨rfl,rfl,rfl,rfl,rfl,rfl⟩ trivial ⟨rfl,rfl,rfl,rfl,rfl⟩ bL aWn rfl⟩
  ·show Cr (upd X' _ _ (atN (bcL b p.c.l.length) l)) (w l)
   by_cases e:l=k
   ·rw[e,bH];exact(hW k hkr).1
   have hl':l<k+1:=hl
   rw[bA λhe=>e (hkinj l k oM hkn he)];exact hb1 l oM
  show Cr (upd X' _ _ j) _
  rw[bA λhe=>hno k (bE k) he.symm];exact hb2 j hj λl hl=>hno l (eM hl)
 replace h6:¬(k:Int)<(x.c.l.length:Nat):=h6
 obtain rfl:k=x.c.l.length:=by omega
 have hbas:∀j,j<p.c.l.length->b.c.l.getD j 0=2->∃l,l<x.c.l.length/\atN (bcL b p.c.l.length) l=j:=λj hj hs=>by rw[hI.c];exact e1.all j hj hs
 have hx2:∀j,b.c.l.getD j 0=2->x0N q b j=0:=λj hs=>by unfold x0N;rw[hs];rfl
 obtain⟨xs,hxs⟩:∃xs:Nat->Rat,xs=λj=>x0N q b j+spr x.c.l.length (atN (bcL b p.c.l.length)) w j:=⟨_,rfl⟩
 have hxb:∀l,l<x.c.l.length->xs (atN (bcL b p.c.l.length) l)=w l:=λl hl=>by
  rw[hxs]
  show x0N q b _+spr _ _ _ _=_
  rw[hx2 _ (hkap l hl).2.2,aLd hl λl' hl' he=>hkinj l' l hl' hl he,fU]
 have hxn:∀j,b.c.l.getD j 0≠2->xs j=x0N q b j:=λj hs=>by
  rw[hxs]
  show x0N q b _+spr _ _ _ _=_
  rw[aSs λl hl he=>absurd (by rw[<-he];exact(hkap l hl).2.2) hs,bJ]
 have hqs:∀j,j<p.c.l.length->lQ ((List.range p.c.l.length).map xs) j=xs j:=λj hj=>by unfold lQ;simp[hj]
 have hcr:∀j,j<p.c.l.length->Cr (X' j) (xs j):=λj hj=>by
  by_cases hs:b.c.l.getD j 0=2
  ·obtain⟨l,hl,rfl⟩:=hbas j hj hs
   rw[hxb l hl];exact hb1 l hl
  rw[hxn j hs];exact hb2 j hj λl hl he=>hs (by rw[<-he];exact(hkap l hl).2.2)
 refine rR 7 3 (λj=>((mW X' p.c.l.length).getD j default).C) rfl rfl (λj hj=>yH j hj) (by rw[nJ (P:=λj=>(X' j).C) (e:=3) λ_ _=>rfl]) bL eB bL λA2 c2 _ _=>⟨(λc hc=>by cases hc),λc hc=>dB (eB c hc),aA gT mxd ⟨(⟨A2,c2,mW X' p.c.l.length⟩,(List.range p.c.l.length).map xs),⟨⟨?_,λj hj=>?_⟩,⟨by simp,λj hj hs=>?_,λi hi hs=>?_,λq hq=>?_⟩⟩,aM aBy rfl trivial⟩⟩
 ·show(mW X' p.c.l.length).length=_
  rw[pQ];simp
 ·have hj':j<p.c.l.length:=by simpa using hj
  show Cr ((mW X' p.c.l.length).getD j default) (lQ ((List.range p.c.l.length).map xs) j)
  rw[vJ hj',hqs j hj'];exact hcr j hj'
 ·rw[hqs j hj];exact hxn j hs
 ·obtain⟨k,hk,hki⟩:=f1.all i hi hs
  have hk':k<x.r.l.length:=by rw[hI.r];exact hk
  have hv:=(h.v i hi).2
  have s1:=(hSol w).2 (λ_ _=>rfl) k hk'
  have hn:x.r.l.length=(bcL b p.c.l.length).length:=by rw[hxr,<-hI.c,hxc]
  have s2:dtn x.r.l.length (aAv p q b k) w=cG (λl=>Vm.get (q.M i) (atN (bcL b p.c.l.length) l:Nat)*w l) x.c.l.length:=by
   unfold dtn
   rw[hxr,<-hxc]
   refine bK λl hl=>?_
   have hl':l<(bcL b p.c.l.length).length:=by rw[<-hI.c];exact hl
   show Vm.get (jL _ _ (q.M (atN (brL b p.r.l.length) k))) _*_=_
   rw[uI (λk l hkl hl=>e1.mono k l hkl hl) (h.v _ (f1.lt k hk)).2.1 hl',show atN (brL b p.r.l.length) k=i from hki]
  rw[s2] at s1
  have s3:dtl (q.M i) (lQ ((List.range p.c.l.length).map xs))=dtl (q.M i) (x0N q b)+cG (λl=>Vm.get (q.M i) (atN (bcL b p.c.l.length) l:Nat)*w l) x.c.l.length:=by
   rw[sW (n:=p.c.l.length) λe he=>⟨(hv.2 e he).1,(hv.2 e he).2.1⟩,sW (n:=p.c.l.length) λe he=>⟨(hv.2 e he).1,(hv.2 e he).2.1⟩]
   unfold dtn
   rw[<-aAu (c:=p.c.l.length) (f:=λj=>Vm.get (q.M i) (j:Nat)) λl hl=>(hkap l hl).2.1,<-xI]
   refine bK λj hj=>?_
   rw[hqs j hj,hxs];grind
  rw[s3,s1]
  show _+(q.b (atN (brL b p.r.l.length) k)-dtl ((q.M (atN (brL b p.r.l.length) k)).take _) _)=_
  rw[cU,show atN (brL b p.r.l.length) k=i from hki];grind
 obtain⟨j,hj,rfl⟩:=cD.1 hq
 have hj':=cL.1 hj
 by_cases hs:b.c.l.getD j 0=2
 ·obtain⟨l,hl,rfl⟩:=hbas j hj' hs
  rw[hxb l hl];exact(hW l oM).2.le oM
 rw[hxn j hs];exact(bJd (b:=b) h hj').le oM
def zT (B F:Nat):Nat->Nat
 |0=>B
 |k+1=>2*zT B F k+2*F+1
theorem aFx {B F k n:Nat} (h:k<=n):zT B F k<=zT B F n:=by
 induction h with
 |refl=>exact aI _
 |step _ ih=>exact aJ ih (by show _<=2*zT B F _+2*F+1;omega)
theorem aWo {l:List En} (ha:Asc l) (t:Nat) (j:Int):Vm.get (l.take t) j=0\/Vm.get (l.take t) j=Vm.get l j:=by
 by_cases h:∃e∈l.take t,e.1=j
 ·refine .inr ?_
  obtain⟨e,he,rfl⟩:=h
  have e1:Vm.get l e.1=Vm.get (l.take t) e.1+Vm.get (l.drop t) e.1:=by rw[<-get_append,eA]
  have ha':Asc (l.take t++l.drop t):=by rw[eA];exact ha
  rw[e1,get_none (a:=l.drop t) λf hf h=>by
   have:e.1<f.1:=(eQ.1 ha').2.2 e he f hf
   omega,bJ]
 exact .inl (get_none λe he h2=>h ⟨e,he,h2⟩)
theorem aWp {l:List En} {t j0:Nat} (h:t<l.length) (he:(l.getD t default).1=(j0:Nat)) (j:Nat):Vm.get (l.take (t+1)) (j:Nat)=Vm.get (l.take t) (j:Nat)+if j=j0 then (l.getD t default).2 else 0:=by
 rw[aBv h,get_append,uG,he]
 show _+(_+(0:Rat))=_
 rw[bJ]
 by_cases e:j=j0
 ·rw[if_pos e,if_pos oM]
 rw[if_neg e,if_neg oM]
section
variable {n F B:Nat} {Lw Up lo us:Nat->List En} {p c y:Nat->Rat} (hP:LuP n Lw Up lo us p) (h1:1<=F)
def aLf (us:Nat->List En) (p c:Nat->Rat) (i t:Nat):Nat->Rat:=λj=>if j=i then fwT us p c i i/p i else fwT us p c i j-Vm.get ((us i).take t) (j:Nat)*(fwT us p c i i/p i)
def aGj (lo:Nat->List En) (n:Nat) (y:Nat->Rat) (k t:Nat):Nat->Rat:=λj=>bkT lo n y k j-Vm.get ((lo (n-1-k)).take t) (j:Nat)*bkT lo n y k (n-1-k)
include h1
theorem aWq {i t j:Nat} (hi:i<n) (hj:j<n) (hp:rb (p i) F) (ha:Asc (us i)) (hb:rbE (us i) F) (h:∀j,j<n->rb (fwT us p c i j) (zT B F i)) (hB:1<=B):rb (aLf us p c i t j) (zT B F (i+1)):=by
 have g1:1<=zT B F i:=aJ hB (aFx (aC i))
 have e1:zT B F (i+1)=2*zT B F i+2*F+1:=rfl
 have hy:=aAr (h i hi) hp g1
 unfold aLf
 by_cases e:j=i
 ·rw[if_pos e];exact hy.le oM
 rw[if_neg e]
 rcases aWo ha t j with h2|h2
 ·rw[h2,dH,xJ];exact(h j hj).le oM
 rw[h2];exact(pP (h j hj) (fS (oP ha hb h1) hy)).le oM
theorem bJe (hp:∀i,i<n->rb (p i) F) (ha:∀i,i<n->Asc (us i)/\rbE (us i) F) (hc:∀j,j<n->rb (c j) B) (hB:1<=B):∀i,i<=n->∀j,j<n->rb (fwT us p c i j) (zT B F i)
 |0,_,j,hj=>hc j hj
 |i+1,hi,j,hj=>by
  have:=aWq h1 (t:=(us i).length) (show i<n by omega) hj (hp i oM) (ha i oM).1 (ha i oM).2 (bJe hp ha hc hB i oM) hB
  unfold aLf at this
  rwa [cU] at this
theorem aWr {k t j:Nat} (hk:k<n) (hj:j<n) (ha:Asc (lo (n-1-k))) (hb:rbE (lo (n-1-k)) F) (h:∀j,j<n->rb (bkT lo n y k j) (zT B F k)):rb (aGj lo n y k t j) (zT B F (k+1)):=by
 have e1:zT B F (k+1)=2*zT B F k+2*F+1:=rfl
 unfold aGj
 rcases aWo ha t j with h2|h2
 ·rw[h2,dH,xJ];exact(h j hj).le oM
 rw[h2];exact(pP (h j hj) (fS (oP ha hb h1) (h (n-1-k) oM))).le oM
theorem bJf (ha:∀i,i<n->Asc (lo i)/\rbE (lo i) F) (hc:∀j,j<n->rb (y j) B):∀k,k<=n->∀j,j<n->rb (bkT lo n y k j) (zT B F k)
 |0,_,j,hj=>hc j hj
 |k+1,hk,j,hj=>by
  have:=aWr h1 (t:=(lo (n-1-k)).length) (show k<n by omega) hj (ha _ oM).1 (ha _ oM).2 (bJf ha hc k oM)
  unfold aGj at this
  rwa [cU] at this
end
theorem aWs (r f s:RatM) {a q b:Rat} (hr:Cr r a) (hra:rb a 4398046511104) (hf:Rq f q 4398046511104) (hs:Rq s b 4398046511104) (hqb:rb (q*b) 4398046511104):Ctr Tryz.prog aKb [] [.a r.C,.a f.C,.a s.C] [] (λg:RatM=>⟨.a g.C,[],Cr g (a-q*b)⟩):=by
 refine aX gT bEp bEq rfl rfl rfl bL aS (aA gT mxd ⟨[],kA s hs,rfl,rfl,rfl,λ_ _=>⟨λh=>aA gT mxd ⟨r,?_,aM rfl rfl trivial⟩,λh=>aA gT mxd ?_⟩⟩)
 ·rw[cX.1 (fJ.1 h),bZ,xJ];exact hr
 exact⟨.seq [(0,false),(1,false),(2,false),(3,false),(4,false),(5,true)],by kernel_rfl,[],xC f s hf hs,rfl,rfl,rfl,λm hm=>⟨[],aKa r m (Cr.rq hr hra) (Cr.rq hm hqb),rfl,rfl,rfl,λg hg=>⟨g,hg,aM rfl rfl trivial⟩⟩⟩
theorem cNv (f:LuM) (Z0:Nat->RatM) {M:Nat->List En} {n F:Nat} {rw cl:Nat->Nat} {Lw Up:Nat->List En} (h:LuG f M n rw cl Lw Up F) (hF:F<=4398046511104) (h1:1<=F) (hn:n<=4096):Ctr Tryz.prog aVz [true] [.a f.C,.c (.s 0 n)] [(62,3,rtC n Z0)] (λ_:Unit=>⟨.c (iC 0),[(62,3,rtC n Z0)],True⟩):=by
 have hR:f.R.l.length=n:=by rw[h.R];simp
 have hw:Ctr Tryz.prog bHo [] [.a f.C,.c (iC (f.R.l.length:Nat))] [] (λ_:Unit=>⟨.c (.v (.bool true)),[],True⟩):=by rw[hR];exact cLc f h hF h1 hn
 refine aX gT bSd bSe rfl rfl rfl bL (aBn eB) (aA gT mxd ?_)
 refine⟨[],hw,rfl,rfl,rfl,λ_ _=>⟨λh2=>?_,λ_=>aA gT mxd ⟨(),trivial,fH rfl rfl bL (aB (bU eB) aZ) rfl (aBn eB)⟩⟩⟩
 replace h2:¬(n:Int)=(f.R.l.length:Nat):=h2
 omega
abbrev tB1 (f:LuM) (n:Nat) (Z0 Z:Nat->RatM):BL:=[(62,3,rtC n Z0),(85,0,f.C),(62,3,rtC n Z)]
theorem aCe {f:LuM} {n:Nat} {Z0 Z:Nat->RatM}:scB 3 (tB1 f n Z0 Z):=aB (bU eB) (aB rfl (aB (bU eB) aZ))
abbrev tB2 (f:LuM) (n:Nat) (Z0 Z X:Nat->RatM):BL:=[(62,3,rtC n Z0),(85,0,f.C),(62,3,rtC n Z),(62,3,rtC n X)]
theorem aLg {f:LuM} {n:Nat} {Z0 Z X:Nat->RatM}:scB 4 (tB2 f n Z0 Z X):=aB (bU eB) (aB rfl (aB (bU eB) (aB (bU eB) aZ)))
theorem cUk {T T' e e':Nat} {l l':List CV} (h:∀c∈l,fM c=true) (h':∀c∈l',fM c=true):ClB [true,true] [(T,e,l),(T',e',l')]:=ClB.cons (λ_=>aW.2 h) (ClB.cons (λ_=>aW.2 h') aS)
abbrev sG0 (n i:Nat):List (Nat×DV):=[(32,.c (iC i)),(31,.c (iC n)),(1,.c (.s 0 n)),(2,.c (.p 1 0)),(7,.c (iC n)),(8,.c (.s 2 n))]
abbrev sG1 (n i:Nat):List (Nat×DV):=[(48,.c (iC i)),(47,.c (iC n)),(2,.c (.p 1 0)),(7,.c (iC n)),(8,.c (.s 2 n))]
abbrev sG2 (n i:Nat) (A:Option Addr) (c m:Nat) (row:Sl EntM) (t:Nat):List (Nat×DV):=(75,.c (iC t))::(73,.c (.r A m c 4 λj=>(row.l.getD (j+1) default).C))::(74,.c (iC m))::(10,.c (iC i))::sG1 n i
abbrev sG3 (n k:Nat):List (Nat×DV):=[(100,.c (iC k)),(99,.c (iC n)),(2,.c (.p 1 0)),(7,.c (iC n)),(8,.c (.s 2 n)),(14,.c (.s 3 n))]
abbrev sG4 (n k i:Nat) (A:Option Addr) (c m:Nat) (row:Sl EntM) (t:Nat):List (Nat×DV):=(119,.c (iC t))::(117,.c (.r A m c 4 λj=>(row.l.getD j default).C))::(118,.c (iC m))::(16,.c (iC i))::sG3 n k
abbrev aSv:FuncId:=132
theorem cCx:Ent Tryz.prog aSv:=aU func132 rfl kR
theorem cCy:Tryz.prog.funcs[aSv]? =some Tryz.f132:=func132
theorem bPx (f:LuM) (Z0:Nat->RatM) {M:Nat->List En} {n F B:Nat} {rw cl:Nat->Nat} {Lw Up:Nat->List En} {bv:Nat->Rat} (h:LuG f M n rw cl Lw Up F) (h1:1<=F) (hn:n<=4096) (hbv:∀k,k<n->Cr (Z0 k) (bv k)/\rb (bv k) B) (h1B:1<=B) (hF:F<=4398046511104) (hB:zT (zT B F n) F n<=4398046511104):
 Ctr Tryz.prog aSv [true,true] [.a f.C,.c (.s 0 n)] [(62,3,rtC n Z0)] (λg:(Nat->RatM)×(Nat->Rat)=>⟨.t [.c (.s 1 n),.c (iC 0)],[(62,3,rtC n Z0),(62,3,rtC n g.1)],TEq (enM M) n bv g.2/\∀r,r<n->Cr (g.1 r) (g.2 r)/\rb (g.2 r) (zT (zT B F n) F n)⟩):=by
 obtain⟨lo,us,p,hP⟩:=h.o.parts
 have hR:f.R.l.length=n:=by rw[h.R];simp
 have hK:f.K.l.length=n:=by rw[h.K];simp
 have hRi:((f.R.l.length:Nat):Int)=(n:Nat):=by rw[hR]
 obtain⟨c,hc⟩:∃c:Nat->Rat,c=λj=>bv (cl j):=⟨_,rfl⟩
 have hpb:∀i,i<n->rb (p i) F:=λi hi=>h.bu i hi ((i:Int),p i) (by rw[(hP.us i hi).1];exact .head _)
 have hua:∀i,i<n->Asc (us i)/\rbE (us i) F:=λi hi=>⟨by
  have:=(h.U.ok i hi).1.1
  rw[(hP.us i hi).1] at this
  exact this.tail,λe he=>h.bu i hi e (by rw[(hP.us i hi).1];exact .tail _ he)⟩
 have hla:∀i,i<n->Asc (lo i)/\rbE (lo i) F:=λi hi=>⟨(hP.lo i hi).2.1,λe he=>h.bl i hi e (by rw[(hP.lo i hi).1];exact dJ _ he)⟩
 have hcb:∀j,j<n->rb (c j) B:=λj hj=>by rw[hc];exact(hbv _ (h.o.clt j hj)).2
 have hfr:=bJe (n:=n) (p:=p) (us:=us) (c:=c) h1 hpb hua hcb h1B
 obtain⟨Y,hY⟩:∃Y,Y=zT B F n:=⟨_,rfl⟩
 have hYB:Y<=4398046511104:=aJ (aFx (B:=Y) (F:=F) (aC n)) (by rw[hY];exact hB)
 have h1Y:1<=Y:=by rw[hY];exact aJ h1B (aFx (aC n))
 refine aX gT cCx cCy rfl rfl rfl bL (ClB.cons (λ_=>aW.2 eB) λi T es l hi=>by cases hi) (aA gT mxd ⟨none,[0],cNv f Z0 h hF h1 hn,rfl,rfl,rfl,λ_ _=>⟨λhh=>absurd rfl hh,λ_=>aA gT mxd ⟨n,⟨hRi,hRi,by show 56*n<=_;omega,by simp only[maxLen];omega⟩,?_⟩⟩⟩)
 show Sd _ _ _ _ _ _
 refine gG tSd 2 (rtC n λ_=>default) rfl kZ.1 kZ.2 ?_
 refine cE (λ_=>true) (λg:Nat×(Nat->RatM)=>sG0 n g.1) (λg=>tB1 f n Z0 g.2) (λ_=>[]) (λg=>g.1<=n/\∀j,j<g.1->Cr (g.2 j) (c j)) (λg=>n-g.1) λhM=>⟨bF hM (chg:=λg:Nat×(Nat->RatM)=>sG0 n g.1) (bls:=λg=>tB1 f n Z0 g.2) (fls:=λ_=>[]) (0,λ_=>default) ⟨aC _,λj hj=>absurd hj (aD _)⟩ rfl ⟨rfl,rfl,rfl⟩ trivial ⟨rfl,hRi,rfl,rfl,hRi,rfl⟩ bL aCe rfl,λ⟨i,Z⟩ ⟨hi,hZ⟩=>aA gT mxd ⟨λh2=>aA gT mxd ?_,λh2=>aA gT mxd ?_⟩⟩
 all_goals
  replace hi:i<=n:=hi
  replace hZ:∀j,j<i->Cr (Z j) (c j):=hZ
 ·replace h2:(i:Int)<(n:Nat):=h2
  have hin:i<n:=by omega
  have hci:=h.o.clt i hin
  have hix:f.K.l.getD i 0=(cl i:Nat):=by rw[h.K];exact yQ hin
  refine⟨i,⟨rfl,show i<f.K.l.length by omega⟩,cl i,⟨hix,hci,fE hci⟩,_,lE hci,i,⟨rfl,hin,fE hin⟩,_,gO hin,(i+1:Nat),wi,bF hM (chg:=λg:Nat×(Nat->RatM)=>sG0 n g.1) (bls:=λg=>tB1 f n Z0 g.2) (fls:=λ_=>[]) (i+1,upd Z i (Z0 (cl i))) ⟨⟨hin,λj hj=>?_⟩,show n-(i+1)<n-i by omega⟩ rfl ⟨rfl,rfl,rfl⟩ trivial ⟨rfl,rfl,rfl,rfl,rfl,rfl⟩ bL aCe rfl⟩
  replace hj:j<i+1:=hj
  show Cr (upd Z i _ j) (c j)
  by_cases e:j=i
  ·subst e;rw[bH,hc];exact(hbv _ hci).1
  rw[bA e];exact hZ j oM
 replace h2:¬(i:Int)<(n:Nat):=h2
 obtain rfl:n=i:=by omega
 refine aA gT mxd ?_
 show Sd _ _ _ _ _ _
 refine cE (λ_=>true) (λg:Nat×(Nat->RatM)=>sG1 n g.1) (λg=>tB1 f n Z0 g.2) (λ_=>[]) (λg=>g.1<=n/\∀j,j<n->Cr (g.2 j) (fwT us p c g.1 j)) (λg=>n-g.1) λhM=>⟨bF hM (chg:=λg:Nat×(Nat->RatM)=>sG1 n g.1) (bls:=λg=>tB1 f n Z0 g.2) (fls:=λ_=>[]) (0,Z) ⟨aC _,hZ⟩ rfl ⟨rfl,rfl,rfl⟩ trivial ⟨rfl,rfl,rfl,rfl,rfl⟩ bL aCe rfl,λ⟨i,Z⟩ ⟨hi,hZ⟩=>aA gT mxd ⟨λh2=>aA gT mxd ?_,λh2=>aA gT mxd ?_⟩⟩
 all_goals
  replace hi:i<=n:=hi
  replace hZ:∀j,j<n->Cr (Z j) (fwT us p c i j):=hZ
 ·replace h2:(i:Int)<(n:Nat):=h2
  have hin:i<n:=by omega
  have lU:=h.U.ln
  have eU:=h.U.row i hin
  obtain⟨hu,hui,hul⟩:=hP.us i hin
  have hpi:=hP.p i hin
  have ln1:(f.U.d.l.getD i cO).l.length=(us i).length+1:=by rw[eU.ln,hu];simp
  refine⟨i,⟨rfl,show i<f.U.d.l.length by omega⟩,?_⟩
  obtain⟨row,hrow⟩:∃row,row=f.U.d.l.getD i cO:=⟨_,rfl⟩
  have hlen:(f.U.d.l.getD i cO).l.length-1=(us i).length:=by omega
  have hsz:(((f.U.d.l.getD i cO).l.length-1:Nat):Int)=((us i).length:Nat):=by rw[hlen]
  have hsl:CV.r (slA (f.U.d.l.getD i cO).A (f.U.d.l.getD i cO).c 1 4) ((f.U.d.l.getD i cO).l.length-1) ((f.U.d.l.getD i cO).c-1) 4 (λj=>((f.U.d.l.getD i cO).l.getD (j+1) default).C)= .r (slA row.A row.c 1 4) (us i).length (row.c-1) 4 λj=>(row.l.getD (j+1) default).C:=by rw[hlen,hrow]
  rw[<-hrow] at eU
  have hfb:=hfr i oM
  have hzz:zT B F (i+1)<=Y:=by rw[hY];exact aFx hin
  have hz0:zT B F (i+1)=2*zT B F i+2*F+1:=rfl
  have e2:=eU.e 0 (by rw[hu];simp)
  rw[show(Up i).getD 0 default=((i:Int),p i) by rw[hu];rfl] at e2
  have hpr:Rq (row.l.getD 0 default).v (p i) F:=Cr.rq e2.2 (hpb i hin)
  obtain⟨yi,hyi⟩:∃yi,yi=fwT us p c i i/p i:=⟨_,rfl⟩
  have hyb:rb yi (zT B F i+F):=by rw[hyi];exact aAr (hfb i hin) (hpb i hin) (aJ h1B (aFx (aC i)))
  refine⟨.seq ((List.range 16).map λi=>(i,i==15)),by kernel_rfl,i,⟨rfl,hin,fE hin⟩,_,lE hin,0,⟨rfl,show 0<(f.U.d.l.getD i cO).l.length by omega⟩,[],aRf (Z i) ((f.U.d.l.getD i cO).l.getD 0 default).v ((Cr.rq (hZ i hin) (hfb i hin)).le oM) (by rw[<-hrow];exact hpr.le) hpi,rfl,rfl,rfl,λg hg=>?_⟩
  replace hg:Cr g yi:=by rw[hyi];exact hg
  refine⟨i,⟨rfl,hin,fE hin⟩,_,gO hin,1,⟨rfl,show 1<=(f.U.d.l.getD i cO).l.length by omega⟩,?_⟩
  show Sd _ _ _ _ _ _
  refine cE (λ_=>true) (λg:Nat×(Nat->RatM)=>sG2 n i (slA row.A row.c 1 4) (row.c-1) (us i).length row g.1) (λg=>tB1 f n Z0 g.2) (λ_=>[]) (λg=>g.1<=(us i).length/\∀j,j<n->Cr (g.2 j) (aLf us p c i g.1 j)) (λg=>(us i).length-g.1) λhM2=>⟨bF hM2 (chg:=λg:Nat×(Nat->RatM)=>sG2 n i (slA row.A row.c 1 4) (row.c-1) (us i).length row g.1) (bls:=λg=>tB1 f n Z0 g.2) (fls:=λ_=>[]) (0,upd Z i g) ⟨aC _,λj hj=>?_⟩ rfl ⟨rfl,rfl,rfl⟩ trivial ⟨rfl,hsl,hsz,rfl,rfl,rfl,rfl,rfl,rfl⟩ bL aCe rfl,λ⟨t,Z'⟩ ⟨ht,hZ'⟩=>aA gT mxd ⟨λh3=>aA gT mxd ?_,λh3=>aA gT mxd ?_⟩⟩
  ·show Cr (upd Z i g j) (if j=i then _ else fwT us p c i j-0*_)
   by_cases e:j=i
   ·subst e;rw[bH,if_pos rfl,<-hyi];exact hg
   rw[bA e,if_neg e,dH,xJ];exact hZ j hj
  all_goals
   replace ht:t<=(us i).length:=ht
   replace hZ':∀j,j<n->Cr (Z' j) (aLf us p c i t j):=hZ'
  ·replace h3:(t:Int)<((us i).length:Nat):=h3
   have htl:t<(us i).length:=by omega
   have e0:=hui _ (fN htl)
   have er:=eU.e (t+1) (by rw[hu];simp;omega)
   rw[show(Up i).getD (t+1) default=(us i).getD t default by rw[hu];rfl] at er
   obtain⟨j0,hj0⟩:∃j0:Nat,((us i).getD t default).1=(j0:Nat):=⟨((us i).getD t default).1.toNat,by omega⟩
   have hij:i<j0:=by omega
   have hjn:j0<n:=by omega
   have hix0:(row.l.getD (t+1) default).ix=(j0:Nat):=er.1.trans hj0
   have hev:rb ((us i).getD t default).2 F:=(hua i hin).2 _ (fN htl)
   have hb0:=aWq (B:=B) (p:=p) (c:=c) (t:=t) h1 hin hjn (hpb i hin) (hua i hin).1 (hua i hin).2 hfb h1B
   have hii:aLf us p c i t i=yi:=by rw[hyi];exact if_pos rfl
   have hzi:=hZ' i hin
   rw[hii] at hzi
   have hk:=aWs (Z' j0) (row.l.getD (t+1) default).v (Z' i) (hZ' j0 hjn) (hb0.le oM) ((Cr.rq er.2 hev).le) ((Cr.rq hzi hyb).le oM) ((fS hev hyb).le oM)
   refine⟨t,⟨rfl,htl⟩,.seq ((List.range 17).map λi=>(i,i==16)),by kernel_rfl,j0,⟨hix0,hjn,fE hjn⟩,_,lE hjn,i,⟨rfl,hin,fE hin⟩,_,lE hin,[],hk,rfl,rfl,rfl,λg hg=>⟨j0,⟨hix0,hjn,fE hjn⟩,_,gO hjn,(t+1:Nat),wi,bF hM2 (chg:=λg:Nat×(Nat->RatM)=>sG2 n i (slA row.A row.c 1 4) (row.c-1) (us i).length row g.1) (bls:=λg=>tB1 f n Z0 g.2) (fls:=λ_=>[]) (t+1,upd Z' j0 g) ⟨⟨htl,λj hj=>?_⟩,show(us i).length-(t+1)<(us i).length-t by omega⟩ rfl ⟨rfl,rfl,rfl⟩ trivial ⟨rfl,rfl,rfl,rfl,rfl,rfl,rfl,rfl,rfl⟩ bL aCe rfl⟩⟩
   show Cr (upd Z' j0 g j) (if j=i then _ else fwT us p c i j-Vm.get ((us i).take (t+1)) (j:Nat)*_)
   rw[aWp htl hj0]
   by_cases e:j=j0
   ·subst e
    rw[bH,if_neg oM,if_pos rfl]
    have e3:aLf us p c i t j-((us i).getD t default).2*yi=fwT us p c i j-(Vm.get ((us i).take t) (j:Nat)+((us i).getD t default).2)*(fwT us p c i i/p i):=by
     unfold aLf
     rw[if_neg oM,hyi];grind
    rw[<-e3];exact hg
   rw[bA e,if_neg e,bJ];exact hZ' j hj
  replace h3:¬(t:Int)<((us i).length:Nat):=h3
  obtain rfl:t=(us i).length:=by omega
  refine⟨(i+1:Nat),wi,bF hM (chg:=λg:Nat×(Nat->RatM)=>sG1 n g.1) (bls:=λg=>tB1 f n Z0 g.2) (fls:=λ_=>[]) (i+1,Z') ⟨⟨hin,λj hj=>?_⟩,show n-(i+1)<n-i by omega⟩ rfl ⟨rfl,rfl,rfl⟩ trivial ⟨rfl,rfl,rfl,rfl,rfl⟩ bL aCe rfl⟩
  have:=hZ' j hj
  unfold aLf at this
  rwa [cU] at this
 replace h2:¬(i:Int)<(n:Nat):=h2
 obtain rfl:n=i:=by omega
 obtain⟨y,hy⟩:∃y,y=fwT us p c n:=⟨_,rfl⟩
 rw[<-hy] at hZ
 have hyb:∀j,j<n->rb (y j) Y:=by rw[hy,hY];exact hfr n (aI n)
 have hbr:=bJf (n:=n) (lo:=lo) (y:=y) (B:=Y) h1 hla hyb
 refine aA gT mxd ⟨n,⟨rfl,rfl,by show 56*n<=_;omega,by simp only[maxLen];omega⟩,?_⟩
 show Sd _ _ _ _ _ _
 refine gG tSd 3 (rtC n λ_=>default) rfl kZ.1 kZ.2 ?_
 refine cE (λ_=>true) (λg:Nat×(Nat->RatM)×(Nat->RatM)=>sG3 n g.1) (λg=>tB2 f n Z0 g.2.1 g.2.2) (λ_=>[]) (λg=>g.1<=n/\(∀j,j<n->Cr (g.2.1 j) (bkT lo n y g.1 j))/\∀j,n-g.1<=j->j<n->Cr (g.2.2 (rw j)) (bkT lo n y n j)) (λg=>n-g.1) λhM=>⟨bF hM (chg:=λg:Nat×(Nat->RatM)×(Nat->RatM)=>sG3 n g.1) (bls:=λg=>tB2 f n Z0 g.2.1 g.2.2) (fls:=λ_=>[]) (0,Z,λ_=>default) ⟨aC _,hZ,λj h4 h5=>absurd h4 (by show ¬n-0<=j;omega)⟩ rfl ⟨rfl,rfl,rfl,rfl⟩ trivial ⟨rfl,rfl,rfl,rfl,rfl,rfl⟩ bL aLg rfl,λ⟨k,Z,X⟩ ⟨hk,hZ,hX⟩=>aA gT mxd ⟨λh2=>aA gT mxd ?_,λh2=>aA gT mxd ?_⟩⟩
 all_goals
  replace hk:k<=n:=hk
  replace hZ:∀j,j<n->Cr (Z j) (bkT lo n y k j):=hZ
  replace hX:∀j,n-k<=j->j<n->Cr (X (rw j)) (bkT lo n y n j):=hX
 ·replace h2:(k:Int)<(n:Nat):=h2
  have hkn:k<n:=by omega
  obtain⟨i,hi⟩:∃i,i=n-1-k:=⟨_,rfl⟩
  have hin:i<n:=by omega
  have hri:=h.o.rlt i hin
  have hix:f.R.l.getD i 0=(rw i:Nat):=by rw[h.R];exact yQ hin
  have lL:=h.L.ln
  have eL:=h.L.row i hin
  obtain⟨hl,hvl⟩:=hP.lo i hin
  have ln1:(f.L.d.l.getD i cO).l.length=(lo i).length+1:=by rw[eL.ln,hl];simp
  have a1:((n-1:Nat):Int)=IntKind.i64.wrap ((n:Nat)-1):=wi oM
  have a2:(i:Int)=IntKind.i64.wrap (((n-1:Nat):Int)-(k:Nat)):=wi oM
  have hll:=kO hvl
  refine⟨(n-1:Nat),a1,(i:Nat),a2,i,⟨rfl,show i<f.L.d.l.length by omega⟩,((lo i).length:Nat),wi (by show(((lo i).length:Nat):Int)=(((f.L.d.l.getD i cO).l.length:Nat):Int)-1/\_<=(((f.L.d.l.getD i cO).l.length:Nat):Int)-1/\(((f.L.d.l.getD i cO).l.length:Nat):Int)-1<=_;omega),(lo i).length,⟨rfl,show(lo i).length<=(f.L.d.l.getD i cO).l.length by omega⟩,?_⟩
  obtain⟨row,hrow⟩:∃row,row=f.L.d.l.getD i cO:=⟨_,rfl⟩
  rw[<-hrow] at eL ln1
  have hbb:=hbr k oM
  have hzz:zT Y F (k+1)<=4398046511104:=aJ (aFx hkn) (by rw[hY];exact hB)
  have hz0:zT Y F (k+1)=2*zT Y F k+2*F+1:=rfl
  show Sd _ _ _ _ _ _
  refine cE (λ_=>true) (λg:Nat×(Nat->RatM)=>sG4 n k i row.A row.c (lo i).length row g.1) (λg=>tB2 f n Z0 g.2 X) (λ_=>[]) (λg=>g.1<=(lo i).length/\∀j,j<n->Cr (g.2 j) (aGj lo n y k g.1 j)) (λg=>(lo i).length-g.1) λhM2=>⟨bF hM2 (chg:=λg:Nat×(Nat->RatM)=>sG4 n k i row.A row.c (lo i).length row g.1) (bls:=λg=>tB2 f n Z0 g.2 X) (fls:=λ_=>[]) (0,Z) ⟨aC _,λj hj=>?_⟩ rfl ⟨rfl,rfl,rfl,rfl⟩ trivial ?_ bL aLg rfl,λ⟨t,Z'⟩ ⟨ht,hZ'⟩=>aA gT mxd ⟨λh3=>aA gT mxd ?_,λh3=>aA gT mxd ?_⟩⟩
  ·show Cr (Z j) (bkT lo n y k j-0*_)
   rw[dH,xJ];exact hZ j hj
  ·exact⟨rfl,by rw[hrow];rfl,rfl,rfl,rfl,rfl,rfl,rfl,rfl,rfl⟩
  all_goals
   replace ht:t<=(lo i).length:=ht
   replace hZ':∀j,j<n->Cr (Z' j) (aGj lo n y k t j):=hZ'
  ·replace h3:(t:Int)<((lo i).length:Nat):=h3
   have htl:t<(lo i).length:=by omega
   have e0:=hvl.2 _ (fN htl)
   have er:=eL.e t (by rw[hl];simp;omega)
   rw[show(Lw i).getD t default=(lo i).getD t default by rw[hl,aH,bD htl,aH]] at er
   obtain⟨j0,hj0⟩:∃j0:Nat,((lo i).getD t default).1=(j0:Nat):=⟨((lo i).getD t default).1.toNat,by omega⟩
   have hji:j0<i:=by omega
   have hjn:j0<n:=by omega
   have hix0:(row.l.getD t default).ix=(j0:Nat):=er.1.trans hj0
   have hev:rb ((lo i).getD t default).2 F:=(hla i hin).2 _ (fN htl)
   have hb0:=aWr (B:=Y) (lo:=lo) (y:=y) (t:=t) h1 hkn hjn (by rw[<-hi];exact(hla i hin).1) (by rw[<-hi];exact(hla i hin).2) hbb
   have hii:aGj lo n y k t i=bkT lo n y k i:=by
    unfold aGj
    rw[<-hi,get_none (a:=(lo i).take t) λe he h4=>by
     have:=(hvl.2 e (cT he)).2.1
     omega,dH,xJ]
   have hzi:=hZ' i hin
   rw[hii] at hzi
   have hyi:=hbb i hin
   have hk':=aWs (Z' j0) (row.l.getD t default).v (Z' i) (hZ' j0 hjn) (hb0.le oM) ((Cr.rq er.2 hev).le) ((Cr.rq hzi hyi).le oM) ((fS hev hyi).le oM)
   refine⟨t,⟨rfl,htl⟩,.seq ((List.range 17).map λi=>(i,i==16)),by kernel_rfl,j0,⟨hix0,hjn,fE hjn⟩,_,lE hjn,i,⟨rfl,hin,fE hin⟩,_,lE hin,[],hk',rfl,rfl,rfl,λg hg=>⟨j0,⟨hix0,hjn,fE hjn⟩,_,gO hjn,(t+1:Nat),wi,bF hM2 (chg:=λg:Nat×(Nat->RatM)=>sG4 n k i row.A row.c (lo i).length row g.1) (bls:=λg=>tB2 f n Z0 g.2 X) (fls:=λ_=>[]) (t+1,upd Z' j0 g) ⟨⟨htl,λj hj=>?_⟩,show(lo i).length-(t+1)<(lo i).length-t by omega⟩ rfl ⟨rfl,rfl,rfl,rfl⟩ trivial ⟨rfl,rfl,rfl,rfl,rfl,rfl,rfl,rfl,rfl,rfl⟩ bL aLg rfl⟩⟩
   show Cr (upd Z' j0 g j) (bkT lo n y k j-Vm.get ((lo (n-1-k)).take (t+1)) (j:Nat)*_)
   rw[<-hi,aWp htl hj0]
   by_cases e:j=j0
   ·subst e
    rw[bH,if_pos rfl]
    have e3:aGj lo n y k t j-((lo i).getD t default).2*bkT lo n y k i=bkT lo n y k j-(Vm.get ((lo i).take t) (j:Nat)+((lo i).getD t default).2)*bkT lo n y k i:=by
     unfold aGj
     rw[<-hi];grind
    rw[<-e3];exact hg
   rw[bA e,if_neg e,bJ,hi];exact hZ' j hj
  replace h3:¬(t:Int)<((lo i).length:Nat):=h3
  obtain rfl:t=(lo i).length:=by omega
  have hZ1:∀j,j<n->Cr (Z' j) (bkT lo n y (k+1) j):=λj hj=>by
   have:=hZ' j hj
   unfold aGj at this
   rw[<-hi,cU,hi] at this
   exact this
  have hst:bkT lo n y (k+1) i=bkT lo n y n i:=by
   have:=aSl hP (y:=y) (j:=i) (k:=k+1) hin (d:=n-(k+1)) oM oM
   rw[show k+1+(n-(k+1))=n by omega] at this
   exact this.symm
  refine aA gT mxd ?_
  refine⟨.seq ((List.range 12).map λi=>(i,i==11)),by kernel_rfl,i,⟨rfl,show i<f.R.l.length by omega⟩,i,⟨rfl,hin,fE hin⟩,_,lE hin,rw i,⟨hix,hri,fE hri⟩,_,gO hri,(k+1:Nat),wi,bF hM (chg:=λg:Nat×(Nat->RatM)×(Nat->RatM)=>sG3 n g.1) (bls:=λg=>tB2 f n Z0 g.2.1 g.2.2) (fls:=λ_=>[]) (k+1,Z',upd X (rw i) (Z' i)) ⟨⟨hkn,hZ1,λj h4 h5=>?_⟩,show n-(k+1)<n-k by omega⟩ rfl ⟨rfl,rfl,rfl,rfl⟩ trivial ⟨rfl,rfl,rfl,rfl,rfl,rfl⟩ bL aLg rfl⟩
  replace h4:n-(k+1)<=j:=h4
  show Cr (upd X (rw i) (Z' i) (rw j)) (bkT lo n y n j)
  by_cases e:j=i
  ·subst e;rw[bH,<-hst];exact hZ1 j hin
  have e2:rw j≠rw i:=λe2=>e (h.o.rinj j i h5 hin e2)
  rw[bA e2]
  exact hX j oM h5
 replace h2:¬(k:Int)<(n:Nat):=h2
 obtain rfl:n=k:=by omega
 obtain⟨xv,hxv⟩:∃xv:Nat->Rat,∀j,j<n->xv (rw j)=bkT lo n y n j:=aSd h.o.rlt h.o.rinj _
 show Sd _ _ _ _ _ _
 refine aUk tSd 1 3 rfl rfl bL bL rfl ⟨_,swl eB,_,swl eB,_,swl eB,bL,aA gT mxd ⟨(X,xv),⟨h.o.solT hP λi hi=>?_,λr hr=>?_⟩,fH ⟨rfl,rfl⟩ ⟨rfl,rfl⟩ bL (aB (bU eB) (aB (bU eB) aZ)) rfl (cUk eB eB)⟩⟩
 ·show xv (rw i)=_
  rw[hxv i hi,hy,hc]
 obtain⟨j,hj,rfl⟩:=oQ h.o.rlt h.o.rinj r hr
 show Cr (X (rw j)) (xv (rw j))/\rb (xv (rw j)) _
 rw[hxv j hj]
 exact⟨hX j oM hj,by rw[<-hY];exact hbr _ (aI _) j hj⟩
structure MuR (p:ProgM) (q:PrQ) (b:BasM) (By:Nat) (ps:List Rat):Prop where
 ln:ps.length=p.r.l.length
 y0:∀i,i<p.r.l.length->b.r.l.getD i 0=2->lQ ps i=0
 d:∀j,j<p.c.l.length->b.c.l.getD j 0=2->cG (λi=>lQ ps i*Vm.get (q.M i) (j:Nat)) p.r.l.length=q.k j
 rb:rbL ps By
abbrev bJg (x:CorM) (p:ProgM) (X:Nat->RatM):BL:=[(113,0,x.C),(42,0,p.C),(62,3,rtC p.r.l.length X)]
theorem aWt {x:CorM} {p:ProgM} {X:Nat->RatM}:scB 3 (bJg x p X):=aB rfl (aB rfl (aB (bU eB) aZ))
abbrev bJh (x:CorM) (p:ProgM) (X Z:Nat->RatM):BL:=bJg x p X++[(62,3,rtC x.c.l.length Z)]
theorem aWu {x:CorM} {p:ProgM} {X Z:Nat->RatM}:scB 4 (bJh x p X Z):=aB rfl (aB rfl (aB (bU eB) (aB (bU eB) aZ)))
abbrev bPy (x:CorM) (p:ProgM) (X Z W:Nat->RatM):BL:=bJh x p X Z++[(62,3,rtC x.c.l.length W)]
theorem aWv {x:CorM} {p:ProgM} {X Z W:Nat->RatM}:scB 5 (bPy x p X Z W):=aB rfl (aB rfl (aB (bU eB) (aB (bU eB) (aB (bU eB) aZ))))
abbrev cCz (p:ProgM) (k:Nat):List (Nat×DV):=[(20,.c (iC k)),(19,.c (iC (p.r.l.length:Nat))),(2,.c (.p 0 0)),(3,.c (.p 1 0)),(5,.c (.s 2 p.r.l.length))]
abbrev cDa (x:CorM) (p:ProgM) (k:Nat):List (Nat×DV):=[(35,.c (iC k)),(33,.c (cI x.c)),(34,.c (iC (x.c.l.length:Nat))),(2,.c (.p 0 0)),(3,.c (.p 1 0)),(5,.c (.s 2 p.r.l.length)),(7,.c (.s 3 x.c.l.length))]
abbrev cDb (x:CorM) (p:ProgM) (k:Nat):List (Nat×DV):=[(60,.c (iC k)),(58,.c (cI x.r)),(59,.c (iC (x.r.l.length:Nat))),(5,.c (.s 2 p.r.l.length)),(10,.c (.s 4 x.c.l.length))]
abbrev cDc:FuncId:=72
theorem cUl:Ent Tryz.prog cDc:=aU func72 rfl kR
theorem cUm:Tryz.prog.funcs[cDc]? =some Tryz.f72:=func72
theorem cNw (x:CorM) (p:ProgM) (b:BasM) {q:PrQ} {B:Nat} {rw cl:Nat->Nat} {Lw Up:Nat->List En} (h:PrV p q B) (hc:PrC p q) (hk:∀j,j<p.c.l.length->rb (q.k j) B) (hI:CorI p q b (bd B (brL b p.r.l.length).length) x rw cl Lw Up) (hS:zT (zT B (bd B (brL b p.r.l.length).length) (brL b p.r.l.length).length) (bd B (brL b p.r.l.length).length) (brL b p.r.l.length).length<=4398046511104):Ctr Tryz.prog cDc [] [.a x.C,.a p.C] [] (λg:Sl RatM×List Rat=>⟨.c (eY g.1),[],Rl g.1.l g.2/\MuR p q b (1+zT (zT B (bd B (brL b p.r.l.length).length) (brL b p.r.l.length).length) (bd B (brL b p.r.l.length).length) (brL b p.r.l.length).length) g.2⟩):=by
 obtain⟨m,hm⟩:∃m,m=(brL b p.r.l.length).length:=⟨_,rfl⟩
 obtain⟨F,hF⟩:∃F,F=bd B m:=⟨_,rfl⟩
 obtain⟨Y,hY⟩:∃Y,Y=zT (zT B F m) F m:=⟨_,rfl⟩
 rw[<-hm,<-hF,<-hY] at hS ⊢
 have hIf:=hI.f
 rw[<-hm,<-hF] at hIf
 have hpc:=h.c
 have hpr:=h.r
 have hBB:=h.hB
 have h1:=h.h1
 have hbok:=hI.v.ok
 have hxr:x.r.l.length=m:=by rw[hI.r,hm]
 have hxc:x.c.l.length=m:=by rw[hI.c,hI.v.n,hm]
 obtain⟨e1,e2⟩:=bJa b p.c.l.length
 obtain⟨f1,f2⟩:=bJb b p.r.l.length
 have hml:m<=p.r.l.length:=by rw[hm];exact iA
 have hkap:∀l,l<x.c.l.length->x.c.l.getD l 0=(atN (bcL b p.c.l.length) l:Nat)/\atN (bcL b p.c.l.length) l<p.c.l.length/\b.c.l.getD (atN (bcL b p.c.l.length) l) 0=2:=λl hl=>by
  have hl':l<(bcL b p.c.l.length).length:=by rw[<-hI.c];exact hl
  exact⟨by rw[hI.c];exact e2 l hl',e1.lt l hl',e1.mem l hl'⟩
 have hrho:∀l,l<x.r.l.length->x.r.l.getD l 0=(atN (brL b p.r.l.length) l:Nat)/\atN (brL b p.r.l.length) l<p.r.l.length/\b.r.l.getD (atN (brL b p.r.l.length) l) 0≠2:=λl hl=>by
  have hl':l<(brL b p.r.l.length).length:=by rw[<-hI.r];exact hl
  exact⟨by rw[hI.r];exact f2 l hl',f1.lt l hl',f1.mem l hl'⟩
 have hrinj:∀l l',l<x.r.l.length->l'<x.r.l.length->atN (brL b p.r.l.length) l=atN (brL b p.r.l.length) l'->l=l':=λl l' hl hl' he=>f1.inj (by rw[<-hI.r];exact hl) (by rw[<-hI.r];exact hl') he
 refine aX gT cUl cUm rfl rfl rfl bL aS (aA gT mxd ⟨p.r.l.length,⟨rfl,rfl,by show 56*_<=_;omega,by simp only[maxLen];omega⟩,?_⟩)
 show Sd _ _ _ _ _ _
 refine gG tSd 2 (rtC p.r.l.length λ_=>default) rfl kZ.1 kZ.2 ?_
 refine cE (λ_=>true) (λg:Nat×(Nat->RatM)=>cCz p g.1) (λg=>bJg x p g.2) (λ_=>[]) (λg=>g.1<=p.r.l.length/\∀j,j<g.1->Cr (g.2 j) 0) (λg=>p.r.l.length-g.1) λhM=>⟨bF hM (chg:=λg:Nat×(Nat->RatM)=>cCz p g.1) (bls:=λg=>bJg x p g.2) (fls:=λ_=>[]) (0,λ_=>default) ⟨aC _,λj hj=>absurd hj (aD _)⟩ rfl ⟨rfl,rfl,rfl⟩ trivial ⟨rfl,rfl,rfl,rfl,rfl⟩ bL aWt rfl,λ⟨k,X⟩ ⟨hk1,hX⟩=>aA gT mxd ⟨λh2=>aA gT mxd ?_,λh2=>aA gT mxd ?_⟩⟩
 all_goals
  replace hk1:k<=p.r.l.length:=hk1
  replace hX:∀j,j<k->Cr (X j) 0:=hX
 ·replace h2:(k:Int)<(p.r.l.length:Nat):=h2
  have hkn:k<p.r.l.length:=by omega
  exact⟨[],yG (z:=0) dC,rfl,rfl,rfl,λg hg=>⟨k,⟨rfl,hkn,fE hkn⟩,_,gO hkn,(k+1:Nat),wi,bF hM (chg:=λg:Nat×(Nat->RatM)=>cCz p g.1) (bls:=λg=>bJg x p g.2) (fls:=λ_=>[]) (k+1,upd X k g) ⟨⟨hkn,λj hj=>by
   show Cr (upd X k g j) 0
   by_cases e:j=k
   ·rw[e,bH];exact hg
   rw[bA e];exact hX j (by have:j<k+1:=hj;omega)⟩,show p.r.l.length-(k+1)<p.r.l.length-k by omega⟩ rfl ⟨rfl,rfl,rfl⟩ trivial ⟨rfl,rfl,rfl,rfl,rfl⟩ bL aWt rfl⟩⟩
 replace h2:¬(k:Int)<(p.r.l.length:Nat):=h2
 obtain rfl:k=p.r.l.length:=by omega
 refine aA gT mxd ⟨x.c.l.length,⟨rfl,rfl,by show 56*_<=_;omega,by simp only[maxLen];omega⟩,?_⟩
 show Sd _ _ _ _ _ _
 refine gG tSd 3 (rtC x.c.l.length λ_=>default) rfl kZ.1 kZ.2 ?_
 refine cE (λ_=>true) (λg:Nat×(Nat->RatM)=>cDa x p g.1) (λg=>bJh x p X g.2) (λ_=>[]) (λg=>g.1<=x.c.l.length/\∀j,j<g.1->Cr (g.2 j) (q.k (atN (bcL b p.c.l.length) j))) (λg=>x.c.l.length-g.1) λhM=>⟨bF hM (chg:=λg:Nat×(Nat->RatM)=>cDa x p g.1) (bls:=λg=>bJh x p X g.2) (fls:=λ_=>[]) (0,λ_=>default) ⟨aC _,λj hj=>absurd hj (aD _)⟩ rfl ⟨rfl,rfl,rfl,rfl⟩ trivial ⟨rfl,rfl,rfl,rfl,rfl,rfl,rfl⟩ bL aWu rfl,λ⟨k,Z⟩ ⟨hk1,hZ⟩=>aA gT mxd ⟨λh3=>aA gT mxd ?_,λh3=>aA gT mxd ?_⟩⟩
 all_goals
  replace hk1:k<=x.c.l.length:=hk1
  replace hZ:∀j,j<k->Cr (Z j) (q.k (atN (bcL b p.c.l.length) j)):=hZ
 ·replace h3:(k:Int)<(x.c.l.length:Nat):=h3
  have hkn:k<x.c.l.length:=by omega
  obtain⟨c1,c2,c3⟩:=hkap k hkn
  refine⟨k,⟨rfl,hkn⟩,atN (bcL b p.c.l.length) k,⟨c1,c2⟩,k,⟨rfl,hkn,fE hkn⟩,_,gO hkn,(k+1:Nat),wi,bF hM (chg:=λg:Nat×(Nat->RatM)=>cDa x p g.1) (bls:=λg=>bJh x p X g.2) (fls:=λ_=>[]) (k+1,upd Z k (p.c.l.getD (atN (bcL b p.c.l.length) k) default).k) ⟨⟨hkn,λj hj=>?_⟩,show x.c.l.length-(k+1)<x.c.l.length-k by omega⟩ rfl ⟨rfl,rfl,rfl,rfl⟩ trivial ⟨rfl,rfl,rfl,rfl,rfl,rfl,rfl⟩ bL aWu rfl⟩
  show Cr (upd Z k _ j) _
  by_cases e:j=k
  ·rw[e,bH];exact hc.k _ c2
  rw[bA e];exact hZ j (by have:j<k+1:=hj;omega)
 replace h3:¬(k:Int)<(x.c.l.length:Nat):=h3
 obtain rfl:k=x.c.l.length:=by omega
 have hIf':LuG x.f (aAv p q b) x.c.l.length rw cl Lw Up F:=by rw[hxc];exact hIf
 have hS':zT (zT B F x.c.l.length) F x.c.l.length<=4398046511104:=by rw[hxc,<-hY];exact hS
 have hF1:1<=F:=by rw[hF];exact vO h1 m
 have hFF:F<=4398046511104:=by
  rcases cF m with e|e
  ·rw[hF,e];exact hBB
  have a1:F<=zT (zT B F m) F 1:=by show F<=2*_+2*F+1;omega
  have a2:zT (zT B F m) F 1<=Y:=by rw[hY];exact aFx e
  omega
 have hct:=bPx x.f Z (bv:=λk=>q.k (atN (bcL b p.c.l.length) k)) (B:=B) hIf' hF1 oM (λk hk'=>⟨hZ k hk',hk _ (hkap k hk').2.1⟩) h1 hFF hS'
 refine aA gT mxd ⟨none,[3],hct,rfl,rfl,rfl,λ⟨W,w⟩ ⟨hT,hW⟩=>?_⟩
 replace hT:TEq (enM (aAv p q b)) x.c.l.length (λk=>q.k (atN (bcL b p.c.l.length) k)) w:=hT
 replace hW:∀r,r<x.c.l.length->Cr (W r) (w r)/\rb (w r) (zT (zT B F x.c.l.length) F x.c.l.length):=hW
 rw[hxc,<-hY,<-hxc] at hW
 show Sd _ _ _ _ _ _
 refine cE (λ_=>true) (λg:Nat×(Nat->RatM)=>cDb x p g.1) (λg=>bPy x p g.2 Z W) (λ_=>[]) (λg=>g.1<=x.r.l.length/\(∀l,l<g.1->Cr (g.2 (atN (brL b p.r.l.length) l)) (w l))/\∀j,j<p.r.l.length->(∀l,l<g.1->atN (brL b p.r.l.length) l≠j)->Cr (g.2 j) 0) (λg=>x.r.l.length-g.1) λhM3=>⟨bF hM3 (chg:=λg:Nat×(Nat->RatM)=>cDb x p g.1) (bls:=λg=>bPy x p g.2 Z W) (fls:=λ_=>[]) (0,X) ⟨aC _,λl hl=>absurd hl (aD _),λj hj _=>hX j hj⟩ rfl ⟨rfl,rfl,rfl,rfl,rfl⟩ trivial ⟨rfl,rfl,rfl,rfl,rfl⟩ bL aWv rfl,λ⟨k,X'⟩ ⟨hk2,hb1,hb2⟩=>aA gT mxd ⟨λh6=>aA gT mxd ?_,λh6=>aA gT mxd ?_⟩⟩
 all_goals
  replace hk2:k<=x.r.l.length:=hk2
  replace hb1:∀l,l<k->Cr (X' (atN (brL b p.r.l.length) l)) (w l):=hb1
  replace hb2:∀j,j<p.r.l.length->(∀l,l<k->atN (brL b p.r.l.length) l≠j)->Cr (X' j) 0:=hb2
 ·replace h6:(k:Int)<(x.r.l.length:Nat):=h6
  have hkn:k<x.r.l.length:=by omega
  have hkc:k<x.c.l.length:=by omega
  obtain⟨c1,c2,c3⟩:=hrho k hkn
  refine⟨k,⟨rfl,hkn⟩,k,⟨rfl,hkc,fE hkc⟩,_,lE hkc,atN (brL b p.r.l.length) k,⟨c1,c2,fE c2⟩,_,gO c2,(k+1:Nat),wi,bF hM3 (chg:=λg:Nat×(Nat->RatM)=>cDb x p g.1) (bls:=λg=>bPy x p g.2 Z W) (fls:=λ_=>[]) (k+1,upd X' (atN (brL b p.r.l.length) k) (W k)) ⟨⟨hkn,λl hl=>?_,λj hj hno=>?_⟩,show x.r.l.length-(k+1)<x.r.l.length-k by omega⟩ rfl ⟨rfl,rfl,rfl,rfl,rfl⟩ trivial ⟨rfl,rfl,rfl,rfl,rfl⟩ bL aWv rfl⟩
  ·show Cr (upd X' _ _ (atN (brL b p.r.l.length) l)) (w l)
   by_cases e:l=k
   ·rw[e,bH];exact(hW k hkc).1
   have hl':l<k+1:=hl
   rw[bA λhe=>e (hrinj l k oM hkn he)];exact hb1 l oM
  show Cr (upd X' _ _ j) _
  rw[bA λhe=>hno k (bE k) he.symm];exact hb2 j hj λl hl=>hno l (eM hl)
 replace h6:¬(k:Int)<(x.r.l.length:Nat):=h6
 obtain rfl:k=x.r.l.length:=by omega
 obtain⟨ys,hys⟩:∃ys:Nat->Rat,ys=spr x.r.l.length (atN (brL b p.r.l.length)) w:=⟨_,rfl⟩
 have hyb:∀l,l<x.r.l.length->ys (atN (brL b p.r.l.length) l)=w l:=λl hl=>by
  rw[hys];exact aLd hl λl' hl' he=>hrinj l' l hl' hl he
 have hyn:∀i,b.r.l.getD i 0=2->ys i=0:=λi hs=>by
  rw[hys];exact aSs λl hl he=>absurd hs (by rw[<-he];exact(hrho l hl).2.2)
 have hqs:∀j,j<p.r.l.length->lQ ((List.range p.r.l.length).map ys) j=ys j:=λj hj=>by unfold lQ;simp[hj]
 have hex:∀i,i<p.r.l.length->b.r.l.getD i 0≠2->∃l,l<x.r.l.length/\atN (brL b p.r.l.length) l=i:=λi hi hs=>by rw[hI.r];exact f1.all i hi hs
 have hcr:∀j,j<p.r.l.length->Cr (X' j) (ys j):=λj hj=>by
  by_cases hs:b.r.l.getD j 0=2
  ·rw[hyn j hs];exact hb2 j hj λl hl he=>(hrho l hl).2.2 (by rw[he];exact hs)
  obtain⟨l,hl,rfl⟩:=hex j hj hs
  rw[hyb l hl];exact hb1 l hl
 refine rR 5 2 (λj=>((mW X' p.r.l.length).getD j default).C) rfl rfl (λj hj=>yH j hj) (by rw[nJ (P:=λj=>(X' j).C) (e:=3) λ_ _=>rfl]) bL eB bL λA2 c2 _ _=>⟨(λc hc=>dB (eB c hc)),(λc hc=>dB (eB c hc)),aA gT mxd ⟨(⟨A2,c2,mW X' p.r.l.length⟩,(List.range p.r.l.length).map ys),⟨⟨?_,λj hj=>?_⟩,⟨by simp,λi hi hs=>?_,λj hj hs=>?_,λq hq=>?_⟩⟩,aM aBy rfl trivial⟩⟩
 ·show(mW X' p.r.l.length).length=_
  rw[pQ];simp
 ·have hj':j<p.r.l.length:=by simpa using hj
  show Cr ((mW X' p.r.l.length).getD j default) (lQ ((List.range p.r.l.length).map ys) j)
  rw[vJ hj',hqs j hj'];exact hcr j hj'
 ·rw[hqs i hi];exact hyn i hs
 ·obtain⟨l,hl,hlj⟩:=e1.all j hj hs
  have hl':l<x.c.l.length:=by rw[hI.c];exact hl
  have s1:=hT l hl'
  have s2:cG (λr=>w r*enM (aAv p q b) r l) x.c.l.length=cG (λr=>Vm.get (q.M (atN (brL b p.r.l.length) r)) (j:Nat)*w r) x.r.l.length:=by
   rw[hxr,<-hxc]
   refine bK λr hr=>?_
   have hr':r<(brL b p.r.l.length).length:=by rw[<-hI.r];omega
   show w r*Vm.get (jL _ _ (q.M (atN (brL b p.r.l.length) r))) _=_
   rw[uI (λk l hkl hl=>e1.mono k l hkl hl) (h.v _ (f1.lt r hr')).2.1 hl,show atN (bcL b p.c.l.length) l=j from hlj];grind
  rw[s2,<-aAu (c:=p.r.l.length) (f:=λi=>Vm.get (q.M i) (j:Nat)) λl hl=>(hrho l hl).2.1,<-hys] at s1
  replace s1:=s1.trans (show q.k (atN (bcL b p.c.l.length) l)=q.k j by rw[show atN (bcL b p.c.l.length) l=j from hlj])
  rw[<-s1]
  refine bK λi hi=>?_
  show lQ ((List.range p.r.l.length).map ys) i*_=_
  rw[hqs i hi];grind
 obtain⟨i,hi,rfl⟩:=cD.1 hq
 have hi':=cL.1 hi
 by_cases hs:b.r.l.getD i 0=2
 ·rw[hyn i hs];exact aAk oM
 obtain⟨l,hl,rfl⟩:=hex i hi' hs
 rw[hyb l hl];exact(hW l oM).2.le oM
structure PrG (p:ProgM) (q:PrQ) (B:Nat):Prop where
 v:PrV p q B
 c:PrC p q
 k:∀j,j<p.c.l.length->rb (q.k j) B
 rl:p.r.l.length<=12
 cl:p.c.l.length<=100
 bB:B<=1000
 f:bd B (p.r.l.length-1)<=4398046511104
 s:∀m,m<=p.c.l.length->yb (zb (2+B+p.c.l.length*(B+B+1)) (bd B m) m) (bd B m) m<=1000000000
 t:∀m,m<=p.c.l.length->zT (zT B (bd B m) m) (bd B m) m<=1000000000
theorem BVal.m {p:ProgM} {q:PrQ} {b:BasM} (h:BVal p q b):(brL b p.r.l.length).length<=p.c.l.length:=by rw[<-h.n];exact iA
abbrev PtL (p:ProgM) (q:PrQ) (b:BasM) (x:Sl RatM) (qs:List Rat):Prop:=Rl x.l qs/\PtR p q b 1000001000 qs
abbrev MuL (p:ProgM) (q:PrQ) (b:BasM) (y:Sl RatM) (ps:List Rat):Prop:=Rl y.l ps/\MuR p q b 1000001000 ps
abbrev bPz:FuncId:=23
theorem cUn:Ent Tryz.prog bPz:=aU func23 rfl kR
theorem cUo:Tryz.prog.funcs[bPz]? =some Tryz.f23:=func23
theorem bJi (p:ProgM) (b:BasM) {q:PrQ} {B:Nat} (h:PrG p q B) (hb:BVal p q b):Ctr Tryz.prog bPz [] [.a p.C,.a b.C] [] (λg:Sl RatM×List Rat=>⟨.t [.c (eY g.1),.c (iC 0)],[],PtL p q b g.1 g.2⟩):=by
 refine aX gT cUn cUo rfl rfl rfl bL aS (aA gT mxd ⟨[],bSs p b h.v h.rl h.f,rfl,rfl,rfl,λg hg=>?_⟩)
 cases g with
 |none=>exact absurd hb hg
 |some g=>
  obtain⟨x,rw',cl,Lw,Up⟩:=g
  have hs:=h.s _ hb.m
  have hB:=h.bB
  exact⟨λhh=>absurd rfl hh,λ_=>aA gT mxd ⟨[],cNu x p b h.v h.c hg oM,rfl,rfl,rfl,λg hg=>⟨g,⟨hg.1,hg.2.ln,hg.2.x0,hg.2.ti,λr hr=>(hg.2.rb r hr).le oM⟩,aM ⟨rfl,rfl⟩ rfl trivial⟩⟩⟩
abbrev cDd:FuncId:=24
theorem cUp:Ent Tryz.prog cDd:=aU func24 rfl kR
theorem cUq:Tryz.prog.funcs[cDd]? =some Tryz.f24:=func24
theorem bSu (p:ProgM) (b:BasM) {q:PrQ} {B:Nat} (h:PrG p q B) (hb:BVal p q b):Ctr Tryz.prog cDd [] [.a p.C,.a b.C] [] (λg:Sl RatM×List Rat=>⟨.t [.c (eY g.1),.c (iC 0)],[],MuL p q b g.1 g.2⟩):=by
 refine aX gT cUp cUq rfl rfl rfl bL aS (aA gT mxd ⟨[],bSs p b h.v h.rl h.f,rfl,rfl,rfl,λg hg=>?_⟩)
 cases g with
 |none=>exact absurd hb hg
 |some g=>
  obtain⟨x,rw',cl,Lw,Up⟩:=g
  have hs:=h.t _ hb.m
  exact⟨λhh=>absurd rfl hh,λ_=>aA gT mxd ⟨[],cNw x p b h.v h.c h.k hg oM,rfl,rfl,rfl,λg hg=>⟨g,⟨hg.1,hg.2.ln,hg.2.y0,hg.2.d,λr hr=>(hg.2.rb r hr).le oM⟩,aM ⟨rfl,rfl⟩ rfl trivial⟩⟩⟩
theorem PrG.px {p:ProgM} {q:PrQ} {B:Nat} (h:PrG p q B) {b:BasM} {x:Sl RatM} {qs:List Rat} (hx:PtL p q b x qs):PrX p q x qs B 1000001000:=⟨h.v,hx.1,hx.2.ln,hx.2.rb,by
 have h1:=h.cl
 have h2:=h.bB
 have h3:(p.c.l.length+1)*(B+1000001000+1)<=101*(B+1000001000+1):=aV _ oM
 omega⟩
theorem PrG.py {p:ProgM} {q:PrQ} {B:Nat} (h:PrG p q B) {b:BasM} {y:Sl RatM} {ps:List Rat} (hy:MuL p q b y ps):PrY p q y ps B 1000001000:=⟨h.v,hy.1,hy.2.ln,hy.2.rb,by decide⟩
theorem PrG.pz {p:ProgM} {q:PrQ} {B:Nat} (h:PrG p q B) {b:BasM} {y:Sl RatM} {ps:List Rat} (hy:MuL p q b y ps):PrZ p q y ps B 1000001000:=⟨h.py hy,h.k,by
 have h1:=h.rl
 have h2:=h.bB
 have h3:(p.r.l.length+1)*(1000001000+B+1)<=13*(1000001000+B+1):=aV _ oM
 omega⟩
abbrev bQa:FuncId:=38
theorem cUr:Ent Tryz.prog bQa:=aU func38 rfl kR
theorem cUs:Tryz.prog.funcs[bQa]? =some Tryz.f38:=func38
theorem cNx (p:ProgM) (b:BasM) {q:PrQ} {B:Nat} (h:PrG p q B) (hb:BVal p q b):Ctr Tryz.prog bQa [] [.a p.C,.a b.C] [] (λg:Sl RatM×List Rat=>⟨pC (Fsb p q g.2),[],PtL p q b g.1 g.2⟩):=by
 refine aX gT cUr cUs rfl rfl rfl bL aS (aA gT mxd ⟨[],bJi p b h hb,rfl,rfl,rfl,λg hg=>?_⟩)
 exact⟨λ_=>⟨[],cMd p g.1 (h.px hg),rfl,rfl,rfl,λ_ _=>⟨g,hg,aM mD rfl trivial⟩⟩,λhh=>absurd rfl hh⟩
def Dbr (s:Int) (d:Rat):Prop:=(sgn d.num<0/\s≠1)\/(0<sgn d.num/\s≠0)
def DuR (p:ProgM) (q:PrQ) (b:BasM) (ps:List Rat) (n:Nat):Prop:=∀j,j<n->¬(b.c.l.getD j 0=2\/Fxd (p.c.l.getD j default) (q.l j) (q.u j))->¬Dbr (b.c.l.getD j 0) (mX q ps p.r.l.length j)
abbrev duB (p:ProgM) (b:BasM):BL:=[(42,0,p.C),(45,0,b.C)]
theorem aLh {p:ProgM} {b:BasM}:scB 2 (duB p b):=aB rfl (aB rfl aZ)
abbrev duG (p:ProgM) (d:Sl RatM) (k:Nat):List (Nat×DV):=[(35,.c (iC k)),(33,.c (aAs p.c)),(34,.c (iC (p.c.l.length:Nat))),(2,.c (.p 0 0)),(3,.c (.p 1 0)),(7,.c (eY d))]
abbrev bQb:FuncId:=39
theorem cUt:Ent Tryz.prog bQb:=aU func39 rfl kR
theorem cUu:Tryz.prog.funcs[bQb]? =some Tryz.f39:=func39
theorem cNy (p:ProgM) (b:BasM) {q:PrQ} {B:Nat} (h:PrG p q B) (hb:BVal p q b):Ctr Tryz.prog bQb [] [.a p.C,.a b.C] [] (λg:Sl RatM×List Rat=>⟨pC (Sgd p g.2/\DuR p q b g.2 p.c.l.length),[],MuL p q b g.1 g.2⟩):=by
 have hpc:=h.v.c
 have hBB:=h.v.hB
 refine aX gT cUt cUu rfl rfl rfl bL aS (aA gT mxd ⟨[],bSu p b h hb,rfl,rfl,rfl,λg hg=>?_⟩)
 refine⟨λhh=>absurd rfl hh,λ_=>⟨[],cMe p g.1 (h.py hg),rfl,rfl,rfl,λ_ _=>⟨λh2=>aA gT mxd ?_,λh2=>aA gT mxd ⟨[],cMf p g.1 (h.pz hg),rfl,rfl,rfl,λd ⟨hd1,hd2⟩=>?_⟩⟩⟩⟩
 ·replace h2:¬Sgd p g.2:=h2
  exact⟨g,hg,aM (ff λhh=>h2 hh.1) rfl trivial⟩
 replace h2:Sgd p g.2:=dW.1 h2
 replace hd1:d.l.length=p.c.l.length:=hd1
 replace hd2:∀j,j<p.c.l.length->Cr (d.l.getD j default) (mX q g.2 p.r.l.length j):=hd2
 have hbc:=hb.ok.c
 show Sd _ _ _ _ _ _
 refine cE (λ_=>true) (λk:Nat=>duG p d k) (λ_=>duB p b) (λ_=>[]) (λk=>k<=p.c.l.length/\DuR p q b g.2 k) (λk=>p.c.l.length-k) λhM=>⟨bF hM (chg:=λk:Nat=>duG p d k) (bls:=λ_=>duB p b) (fls:=λ_=>[]) 0 ⟨aC _,λj hj=>absurd hj (aD _)⟩ rfl ⟨rfl,rfl⟩ trivial ⟨rfl,rfl,rfl,rfl,rfl,rfl⟩ bL aLh rfl,λk ⟨hk,hD⟩=>aA gT mxd ⟨λh3=>aA gT mxd ?_,λh3=>aA gT mxd ?_⟩⟩
 ·replace h3:(k:Int)<(p.c.l.length:Nat):=h3
  have hkn:k<p.c.l.length:=by omega
  have hcol:=h.v.rd.c k hkn
  have nxt:(¬(b.c.l.getD k 0=2\/Fxd (p.c.l.getD k default) (q.l k) (q.u k))->¬Dbr (b.c.l.getD k 0) (mX q g.2 p.r.l.length k))->DuR p q b g.2 (k+1):=λhh j hj=>by
   rcases cM (cV hj) with e|e
   ·exact hD j e
   subst e;exact hh
  have go:DuR p q b g.2 (k+1)->True:=λ_=>trivial
  have hz:=(h.pz hg).rd hkn p.r.l.length (aI _)
  have hzb:=(h.pz hg).b
  have hzq:Rq (d.l.getD k default) (mX q g.2 p.r.l.length k) 4398046511104:=Cr.rq (hd2 k hkn) (hz.le (by rw[dM] at hzb;omega))
  refine⟨k,⟨rfl,hkn⟩,k,⟨rfl,by omega⟩,⟨λhq=>?_,λhq=>⟨[],cLs (p.c.l.getD k default) hcol hBB,rfl,rfl,rfl,λ_ _=>⟨λh4=>aA gT mxd ?_,λh4=>aA gT mxd ⟨k,⟨rfl,by omega⟩,[],kA (d.l.getD k default) hzq,rfl,rfl,rfl,λ_ _=>?_⟩⟩⟩⟩⟩
  ·refine⟨(k+1:Nat),wi,bF hM (chg:=λk:Nat=>duG p d k) (bls:=λ_=>duB p b) (fls:=λ_=>[]) (k+1) ⟨⟨hkn,?_⟩,show p.c.l.length-(k+1)<p.c.l.length-k by omega⟩ rfl ⟨rfl,rfl⟩ trivial ⟨rfl,rfl,rfl,rfl,rfl,rfl⟩ bL aLh rfl⟩
   exact nxt λhh=>absurd (.inl hq) hh
  ·refine⟨(k+1:Nat),wi,bF hM (chg:=λk:Nat=>duG p d k) (bls:=λ_=>duB p b) (fls:=λ_=>[]) (k+1) ⟨⟨hkn,?_⟩,show p.c.l.length-(k+1)<p.c.l.length-k by omega⟩ rfl ⟨rfl,rfl⟩ trivial ⟨rfl,rfl,rfl,rfl,rfl,rfl⟩ bL aLh rfl⟩
   exact nxt λhh=>absurd (.inr h4) hh
  refine⟨k,λ_=>⟨rfl,by omega⟩,k,λ_=>⟨rfl,by omega⟩,⟨λh5=>aA gT mxd ?_,λh5=>aA gT mxd ?_⟩⟩
  ·replace h5:Dbr (b.c.l.getD k 0) (mX q g.2 p.r.l.length k):=h5
   exact⟨g,hg,aM (ff λhh=>hh.2 k hkn (λh6=>h6.elim hq h4) h5) rfl trivial⟩
  replace h5:¬Dbr (b.c.l.getD k 0) (mX q g.2 p.r.l.length k):=h5
  refine⟨(k+1:Nat),wi,bF hM (chg:=λk:Nat=>duG p d k) (bls:=λ_=>duB p b) (fls:=λ_=>[]) (k+1) ⟨⟨hkn,?_⟩,show p.c.l.length-(k+1)<p.c.l.length-k by omega⟩ rfl ⟨rfl,rfl⟩ trivial ⟨rfl,rfl,rfl,rfl,rfl,rfl⟩ bL aLh rfl⟩
  exact nxt λ_=>h5
 replace h3:¬(k:Int)<(p.c.l.length:Nat):=h3
 obtain rfl:k=p.c.l.length:=by omega
 exact aA gT mxd ⟨g,hg,aM (tt ⟨h2,hD⟩) rfl trivial⟩
theorem _root_.Go.Vy.CtrF.cl2 {P:Program} {q:FuncId} {cl cl':List Bool} {al:List DV} {bl:BL} {fl:List Fam} {σ:Type} {R:σ->OutF} (h:CtrF P q cl al bl fl R) (hb:ClB cl' bl) (hc:∀g,(R g).C->ClB cl' (R g).bl):CtrF P q cl' al bl fl R:=⟨h.ent,hb,λρ w vals hv hD hF=>(h.run ρ w vals hv hD hF).mono λe w' ⟨v,he,g,ρ',c1,c2,c3,_,c5⟩=>⟨v,he,g,ρ',c1,c2,c3,hc g c1,c5⟩⟩
theorem aFy {P:Nat->Prop}:∀n,(gD P n).length+(gD (λi=>¬P i) n).length=n
 |0=>rfl
 |n+1=>by
  have ih:=aFy (P:=P) n
  by_cases h:P n
  ·rw[jM h,mR (P:=λi=>¬P i) (λhh=>hh h),aF];show _+1+_=_;omega
  rw[mR h,jM (P:=λi=>¬P i) h,aF];show _+(_+1)=_;omega
noncomputable def lfO (st:Sl Int) (n:Nat):List Int:=gD (qF st) n++gD (λi=>¬qF st i) n
theorem vS {st:Sl Int} {n:Nat}:(lfO st n).length=n:=by unfold lfO;rw[aF];exact aFy n
theorem aWw {n j:Nat} {P:Nat->CV} (hj:j<n):((dR n P).drop (j*1)).take 1=[P j]:=by
 have h1:=eG (P:=P) hj
 rw[bN] at h1
 rw[bN,dX (by rw[dK];exact hj)]
 rw[aG (by rw[dK];exact hj)] at h1
 injection h1 with h1
 rw[h1];rfl
theorem bJj {L:List Int} {n:Nat} (h:L.length=n):L.map iC=dR n λk=>iC (L.getD k 0):=by
 unfold dR
 refine lF (by simp[h]) λi h1 h2=>?_
 have hi:i<L.length:=by simpa using h1
 simp[hi]
def rvI (O:List Int) (n i k:Nat):Int:=O.getD (if k<i\/n<=k+i then n-1-k else k) 0
theorem bQc {O:List Int} {n i k:Nat} (hn:O.length=n) (hi:n<=2*i+1) (hk:k<n):rvI O n i k=O.reverse.getD k 0:=by
 unfold rvI
 have e:(if k<i\/n<=k+i then n-1-k else k)=n-1-k:=by
  split
  ·rfl
  omega
 rw[e,aH,aH,List.getElem?_reverse oM,hn]
abbrev lfB (st:Sl Int) (n:Nat) (O:List Int) (i:Nat):BL:=[(38,0,[cI st]),(101,0,[.f aHm [] [(0,0)]]),(3,1,dR n λk=>iC (rvI O n i k))]
theorem bJk {st:Sl Int} {n:Nat} {O:List Int} {i:Nat}:scB 3 (lfB st n O i):=aB rfl (aB rfl (aB (bU (aY λ_ _=>rfl)) aZ))
abbrev lfG (n i:Nat):List (Nat×DV):=[(7,.c (iC i)),(8,.c (iC ((n:Int)-1-(i:Nat)))),(6,.c (.s 2 n))]
abbrev cDe:FuncId:=61
theorem cUv:Ent Tryz.prog cDe:=aU func61 rfl kR
theorem cUw:Tryz.prog.funcs[cDe]? =some Tryz.f61:=func61
open Classical in
theorem bQd (st:Sl Int) (n:Nat) (hn:n<=4096):Ctr Tryz.prog cDe [] [.c (cI st),.c (iC n)] [] (λg:Sl Int=>⟨.c (cI g),[],g.l=(lfO st n).reverse⟩):=by
 have n1:Ctr Tryz.prog aOk [true,true] [.c (iC n),.c (.f aHm [] [(0,0)])] [(38,0,[cI st])] (λ_:Unit=>⟨.c (.s 1 (fQ (qF st) n).length),[(38,0,[cI st]),(3,1,(fQ (qF st) n).map iC)],True⟩):=(bSl (.i st) aHm n (qF st) hn λi _=>bIo st i).cl2 (ClB.cons (λ_=>rfl) λi T es l hi=>by cases hi) λ_ _=>ClB.cons (λ_=>rfl) (eT (aW.2 (bR _)))
 have n2:Ctr Tryz.prog aOk [false,true,true] [.c (iC n),.c (.f aOm [] [(0,0)])] (KpS.t st).B (λ_:Unit=>⟨.c (.s 2 (fQ (λi=>¬qF st i) n).length),(KpS.t st).B++[(3,1,(fQ (λi=>¬qF st i) n).map iC)],True⟩):=(bSl (.t st) aOm n (λi=>¬qF st i) hn λi _=>cCa st i).cl2 (ClB.cons (λh=>by cases h) (ClB.cons (λ_=>rfl) λi T es l hi=>by cases hi)) λ_ _=>ClB.cons (λh=>by cases h) (ClB.cons (λ_=>rfl) (eT (aW.2 (bR _))))
 have l1:(fQ (qF st) n).length<=n:=rV n
 have l2:(fQ (λi=>¬qF st i) n).length<=n:=rV n
 refine aX gT cUv cUw rfl rfl rfl bL aS (aA gT mxd ⟨[0],n1,rfl,rfl,rfl,λ_ _=>⟨[1,0],n2,rfl,rfl,rfl,λ_ _=>?_⟩⟩)
 have hO:(fQ (qF st) n).map iC++(fQ (λi=>¬qF st i) n).map iC=dR n λk=>iC (rvI (lfO st n) n 0 k):=by
  rw[<-bI,sY,sY]
  exact(bJj vS).trans (gH λk hk=>by unfold rvI;rw[if_neg oM])
 have hlen:(fQ (qF st) n).length+(fQ (λi=>¬qF st i) n).length=n:=by rw[sY,sY];exact aFy n
 refine⟨⟨by rw[aO,bN],by rw[aO,bN],by simp only[maxLen];omega,by show(_+_)*8<=_;omega,λc hc=>(aR.1 hc).elim (λh=>dB (bR _ c h)) λh=>dB (bR _ c h)⟩,(λc hc=>dB (bR _ c hc)),(n:Int)-1,wi (h:=⟨by show(n:Int)-1=(((fQ (qF st) n).length+(fQ (λi=>¬qF st i) n).length:Nat):Int)-1;rw[hlen],by show _<=(((fQ (qF st) n).length+(fQ (λi=>¬qF st i) n).length:Nat):Int)-1;omega,by show(((fQ (qF st) n).length+(fQ (λi=>¬qF st i) n).length:Nat):Int)-1<=_;omega⟩),?_⟩
 show Sd _ _ _ _ _ _
 refine cE (λ_=>true) (λi:Nat=>lfG n i) (λi=>lfB st n (lfO st n) i) (λ_=>[]) (λi=>i<=n) (λi=>n-i) λhM=>⟨bF hM (chg:=λi:Nat=>lfG n i) (bls:=λi=>lfB st n (lfO st n) i) (fls:=λ_=>[]) 0 (aC _) rfl ⟨rfl,rfl,congrArg (λl=>((3,1,l):TypeId×Nat×List CV)) hO⟩ trivial ⟨rfl,?_,hlen⟩ bL bJk rfl,λi hi=>aA gT mxd ⟨λh2=>aA gT mxd ?_,λh2=>aA gT mxd ?_⟩⟩
 ·show(n:Int)-1=(n:Int)-1-((0:Nat):Int);omega
 ·replace h2:(i:Int)<(n:Int)-1-(i:Nat):=h2
  have hin:i<n:=by omega
  obtain⟨j,hj⟩:∃j,j=n-1-i:=⟨_,rfl⟩
  have hjn:j<n:=by omega
  have hji:((n:Int)-1-(i:Nat))=(j:Nat):=by omega
  refine⟨.seq [(0,false),(1,false),(2,false),(3,false),(4,false),(5,false),(6,false),(7,false),(8,false),(9,false),(10,false),(11,false),(12,false),(13,true),(14,false),(15,true)],by kernel_rfl,j,⟨hji,hjn,cS hjn⟩,_,eG hjn,i,⟨rfl,hin,cS hin⟩,_,eG hin,i,⟨rfl,hin,cS hin⟩,_,gU (Q:=λk=>if k=i then iC (rvI (lfO st n) n i j) else iC (rvI (lfO st n) n i k)) hin (λk _=>rfl),j,⟨hji,hjn,cS hjn⟩,_,gU (Q:=λk=>iC (rvI (lfO st n) n (i+1) k)) hjn (λk hk=>?_),(i+1:Nat),wi,(n:Int)-1-((i+1:Nat):Int),wi (h:=⟨by show(n:Int)-1-((i+1:Nat):Int)=(n:Int)-1-(i:Nat)-1;omega,by show _<=(n:Int)-1-(i:Nat)-1;omega,by show(n:Int)-1-(i:Nat)-1<=_;omega⟩),bF hM (chg:=λi:Nat=>lfG n i) (bls:=λi=>lfB st n (lfO st n) i) (fls:=λ_=>[]) (i+1) ⟨hin,show n-(i+1)<n-i by omega⟩ rfl ⟨rfl,rfl,rfl⟩ trivial ⟨rfl,rfl,rfl⟩ bL bJk rfl⟩
  unfold rvI
  by_cases e1:k=j
  ·rw[if_pos e1,if_neg oM,if_pos oM]
   exact congrArg (λz=>iC ((lfO st n).getD z 0)) oM
  rw[if_neg e1]
  by_cases e2:k=i
  ·rw[if_pos e2,if_neg oM,if_pos oM]
   exact congrArg (λz=>iC ((lfO st n).getD z 0)) oM
  rw[if_neg e2]
  exact congrArg (λz=>iC ((lfO st n).getD z 0)) (by
   by_cases e3:k<i\/n<=k+i
   ·rw[if_pos e3,if_pos oM]
   rw[if_neg e3,if_neg oM])
 replace h2:¬(i:Int)<(n:Int)-1-(i:Nat):=h2
 show Sd _ _ _ _ _ _
 refine rR 6 2 (λj=>[iC ((lfO st n).reverse.getD j 0)]) rfl rfl (λj hj=>?_) (by rw[dK,bN]) bL (aY λ_ _=>rfl) bL λA c _ _=>aA gT mxd ⟨⟨A,c,(lfO st n).reverse⟩,rfl,aM ?_ rfl trivial⟩
 ·rw[aWw hj,bQc vS oM hj]
 show CV.r A n c 1 _=CV.r A ((lfO st n).reverse).length c 1 _
 rw[qZ,vS]
theorem rX {P Q:Nat->Prop}:∀n,(∀i,i<n->(P i↔Q i))->gD P n=gD Q n
 |0,_=>rfl
 |n+1,h=>by
  have ih:=rX n λi hi=>h i (eM hi)
  by_cases hp:P n
  ·rw[jM hp,jM ((h n (bE n)).1 hp),ih]
  rw[mR hp,mR (λhq=>hp ((h n (bE n)).2 hq)),ih]
theorem Dep.cg {Q Q':Nat->Nat->Rat} {r c j:Nat} (h:∀i k,i<r->k<c->Q i k=Q' i k):Dep Q r c j->Dep Q' r c j:=λ⟨x,h1,h2,h3⟩=>⟨x,h1,h2,λi hi=>by rw[<-h3 i hi];exact bK λk hk=>by rw[h i k hi hk]⟩
theorem aLi {Q Q':Nat->Nat->Rat} {r c n:Nat} (h:∀i k,i<r->k<c->Q i k=Q' i k):jU Q r c n=jU Q' r c n:=rX n λi _=>⟨λh1 h2=>h1 (Dep.cg (λi k hi hk=>(h i k hi hk).symm) h2),λh1 h2=>h1 (Dep.cg h h2)⟩
noncomputable def bdL (Q:Nat->Nat->Rat) (m:Nat) (O:List Int):List Int:=(jU Q m O.length O.length).map λz=>O.getD z.toNat 0
abbrev boB (m S T:MatM) (n k:Nat) (L O:List Int):BL:=[(24,0,m.C),(24,0,S.C),(24,0,T.C),(3,1,dR n λj=>iC (if j<k then O.getD (atN L j) 0 else 0))]
theorem bJl {m S T:MatM} {n k:Nat} {L O:List Int}:scB 4 (boB m S T n k L O):=aB rfl (aB rfl (aB rfl (aB (bU (aY λ_ _=>rfl)) aZ)))
abbrev boG (L O:Sl Int) (k:Nat):List (Nat×DV):=[(38,.c (iC k)),(36,.c (cI L)),(37,.c (iC (L.l.length:Nat))),(13,.c (.s 3 L.l.length)),(2,.c (cI O))]
abbrev cDf:FuncId:=60
theorem cUx:Ent Tryz.prog cDf:=aU func60 rfl kR
theorem cUy:Tryz.prog.funcs[cDf]? =some Tryz.f60:=func60
theorem cNz (m:MatM) (ch or:Sl Int) {M:Nat->List En} {a b B:Nat} {ρ κ:Nat->Nat} (h:Mr m M a b B) (hb:rbM M a B) (h1:1<=B) (hB:bd B (ch.l.length*or.l.length)<=4398046511104) (ha:a<=4096) (hbn:b<=4096) (hA:SelA a b or ch ρ κ):Ctr Tryz.prog cDf [] [.a m.C,.c (cI ch),.c (cI or)] [] (λg:Sl Int=>⟨.c (cI g),[],g.l=bdL (λl i=>Vm.get (M (ρ i)) (κ l:Nat)) ch.l.length or.l⟩):=by
 have hrl:=hA.rl
 have hcl:=hA.cl
 have hBB:B<=4398046511104:=aJ (kY (B:=B) (aC _)) hB
 have hok:∀k,k<or.l.length->VOk (M (ρ k)) (b:Nat):=λk hk=>(h.ok _ (hA.r k hk).2).1
 have hrS:rbM (λk=>jL κ ch.l.length (M (ρ k))) or.l.length B:=λk hk=>aKx (hb _ (hA.r k hk).2)
 refine aX gT cUx cUy rfl rfl rfl bL aS (aA gT mxd ⟨[],cCq m or ch h hb h1 hBB ha hbn hA,rfl,rfl,rfl,λS hS=>⟨[],cJa S (hS.mr hrS) hBB oM oM,rfl,rfl,rfl,λT hT=>⟨[],bIv T (hT.mr λj hj=>aKk h1 hrS λi hi=>(yI hA.m (hok i hi)).1) (λj hj=>aKk h1 hrS λi hi=>(yI hA.m (hok i hi)).1) h1 hB oM oM,rfl,rfl,rfl,λL hL=>?_⟩⟩⟩)
 replace hL:L.l=jU (λl i=>Vm.get (M (ρ i)) (κ l:Nat)) ch.l.length or.l.length or.l.length:=hL.trans (aLi λl i hl hi=>by
  show Vm.get (trM _ _ l) (i:Nat)=_
  rw[aVf hi,uI hA.m (hok i hi).1 hl])
 have hLl:L.l.length<=or.l.length:=by rw[hL];exact iA
 have hLa:∀k,k<L.l.length->L.l.getD k 0=(atN L.l k:Nat)/\atN L.l k<or.l.length:=λk hk=>by
  obtain⟨e1,e2⟩:=gJ (P:=λj=>¬Dep (λl i=>Vm.get (M (ρ i)) (κ l:Nat)) ch.l.length or.l.length j) or.l.length
  rw[hL] at hk ⊢
  exact⟨e2 k hk,e1.lt k hk⟩
 refine⟨L.l.length,⟨rfl,rfl,by show 8*_<=_;omega,by simp only[maxLen];omega⟩,?_⟩
 refine cE (λ_=>true) (λk:Nat=>boG L or k) (λk=>boB m S T L.l.length k L.l or.l) (λ_=>[]) (λk=>k<=L.l.length) (λk=>L.l.length-k) λhM=>⟨bF hM (chg:=λk:Nat=>boG L or k) (bls:=λk=>boB m S T L.l.length k L.l or.l) (fls:=λ_=>[]) 0 (aC _) rfl ⟨rfl,rfl,rfl,?_⟩ trivial ⟨rfl,rfl,rfl,rfl,rfl⟩ bL bJl rfl,λk hk=>aA gT mxd ⟨λh2=>aA gT mxd ?_,λh2=>aA gT mxd ?_⟩⟩
 ·show(3,1,List.replicate _ (iC 0))=_
  rw[aAl]
  exact congrArg (λl=>((3,1,l):TypeId×Nat×List CV)) (gH λx _=>rfl)
 ·replace h2:(k:Int)<(L.l.length:Nat):=h2
  have hkn:k<L.l.length:=by omega
  obtain⟨c1,c2⟩:=hLa k hkn
  refine⟨k,⟨rfl,hkn⟩,atN L.l k,⟨c1,c2⟩,k,⟨rfl,hkn,cS hkn⟩,_,gU (Q:=λj=>iC (if j<k+1 then or.l.getD (atN L.l j) 0 else 0)) hkn (λj hj=>?_),(k+1:Nat),wi,bF hM (chg:=λk:Nat=>boG L or k) (bls:=λk=>boB m S T L.l.length k L.l or.l) (fls:=λ_=>[]) (k+1) ⟨hkn,show L.l.length-(k+1)<L.l.length-k by omega⟩ rfl ⟨rfl,rfl,rfl,rfl⟩ trivial ⟨rfl,rfl,rfl,rfl,rfl⟩ bL bJl rfl⟩
  by_cases e:j=k
  ·rw[if_pos e,if_pos oM,e]
  rw[if_neg e]
  by_cases e2:j<k
  ·rw[if_pos e2,if_pos oM]
  rw[if_neg e2,if_neg oM]
 replace h2:¬(k:Int)<(L.l.length:Nat):=h2
 obtain rfl:k=L.l.length:=by omega
 show Sd _ _ _ _ _ _
 refine rR 13 3 (λj=>[iC ((bdL (λl i=>Vm.get (M (ρ i)) (κ l:Nat)) ch.l.length or.l).getD j 0)]) rfl rfl (λj hj=>?_) (by rw[dK,bN]) bL (aY λ_ _=>rfl) bL λA c _ _=>aA gT mxd ⟨⟨A,c,bdL (λl i=>Vm.get (M (ρ i)) (κ l:Nat)) ch.l.length or.l⟩,rfl,aM ?_ rfl trivial⟩
 ·rw[aWw hj,if_pos hj]
  unfold bdL
  rw[<-hL]
  simp[aH,hj,atN]
 show CV.r A L.l.length c 1 _=CV.r A (bdL _ _ _).length c 1 _
 rw[show(bdL (λl i=>Vm.get (M (ρ i)) (κ l:Nat)) ch.l.length or.l).length=L.l.length by unfold bdL;rw[<-hL,aO]]
theorem cDg {L:List Int} {n:Nat} (h:∀z∈L,∃k:Nat,z=(k:Nat)/\k<n) {k:Nat} (hk:k<L.length):L.getD k 0=(atN L k:Nat)/\atN L k<n:=by
 obtain⟨j,e,hj⟩:=h (L.getD k 0) (fN hk)
 unfold atN
 rw[e]
 exact⟨rfl,hj⟩
theorem aHq:∀n,gD (λ_=>True) n=(List.range n).map λk:Nat=>(k:Int)
 |0=>rfl
 |n+1=>by rw[jM trivial,aHq n,gQ,bI];rfl
noncomputable abbrev wnL (p:ProgM) (b:BasM):List Int:=gD (λj=>b.c.l.getD j 0=2) (min p.c.l.length b.c.l.length)
noncomputable abbrev wnQ (p:ProgM) (q:PrQ) (b:BasM) (i k:Nat):Rat:=Vm.get (q.M i) (atN (wnL p b) k:Nat)
noncomputable abbrev iH (p:ProgM) (q:PrQ) (b:BasM):List Int:=jU (wnQ p q b) p.r.l.length (wnL p b).length (wnL p b).length
noncomputable abbrev orL (p:ProgM) (b:BasM):List Int:=(lfO b.r p.r.l.length).reverse
noncomputable abbrev ltL (p:ProgM) (q:PrQ) (b:BasM):List Int:=bdL (λl i=>wnQ p q b (atN (orL p b) i) (atN (iH p q b) l)) (iH p q b).length (orL p b)
open Classical in
noncomputable def stC (c:ColM) (l:List Int) (j:Nat):Int:=if (j<l.length/\l.getD j 0≠2)/\Pmt c (l.getD j 0) then l.getD j 0 else dfC c
structure RpR (p:ProgM) (q:PrQ) (b g:BasM):Prop where
 cl:g.c.l.length=p.c.l.length
 rl:g.r.l.length=p.r.l.length
 c2:∀k,k<(iH p q b).length->g.c.l.getD (atN (wnL p b) (atN (iH p q b) k)) 0=2
 c0:∀j,j<p.c.l.length->(∀k,k<(iH p q b).length->atN (wnL p b) (atN (iH p q b) k)≠j)->g.c.l.getD j 0=stC (p.c.l.getD j default) b.c.l j
 r0:∀k,k<(ltL p q b).length->g.r.l.getD (atN (ltL p q b) k) 0=dfR (p.r.l.getD (atN (ltL p q b) k) default).s
 r2:∀i,i<p.r.l.length->(∀k,k<(ltL p q b).length->atN (ltL p q b) k≠i)->g.r.l.getD i 0=2
theorem aWx {x:Sl Int} {n:Nat} {z:Int} (h:z∈lfO x n):∃k:Nat,z=(k:Nat)/\k<n:=by
 unfold lfO at h
 rcases aR.1 h with h|h
 all_goals
  obtain⟨k,h1,h2,_⟩:=oR.1 h
  exact⟨k,h1,h2⟩
theorem zG {p:ProgM} {b:BasM} {k:Nat} (hk:k<(orL p b).length):(orL p b).getD k 0=(atN (orL p b) k:Nat)/\atN (orL p b) k<p.r.l.length:=cDg (λz hz=>aWx (List.mem_reverse.1 hz)) hk
theorem sZ {p:ProgM} {b:BasM}:(orL p b).length=p.r.l.length:=by rw[qZ,vS]
theorem zH {p:ProgM} {b:BasM} {k:Nat} (hk:k<(wnL p b).length):(wnL p b).getD k 0=(atN (wnL p b) k:Nat)/\atN (wnL p b) k<min p.c.l.length b.c.l.length/\b.c.l.getD (atN (wnL p b) k) 0=2:=by
 obtain⟨e1,e2⟩:=gJ (P:=λj=>b.c.l.getD j 0=2) (min p.c.l.length b.c.l.length)
 exact⟨e2 k hk,e1.lt k hk,e1.mem k hk⟩
theorem aAx {p:ProgM} {q:PrQ} {b:BasM} {k:Nat} (hk:k<(iH p q b).length):(iH p q b).getD k 0=(atN (iH p q b) k:Nat)/\atN (iH p q b) k<(wnL p b).length:=by
 obtain⟨e1,e2⟩:=gJ (P:=λj=>¬Dep (wnQ p q b) p.r.l.length (wnL p b).length j) (wnL p b).length
 exact⟨e2 k hk,e1.lt k hk⟩
theorem aSw {p:ProgM} {q:PrQ} {b:BasM} {k:Nat} (hk:k<(ltL p q b).length):(ltL p q b).getD k 0=(atN (ltL p q b) k:Nat)/\atN (ltL p q b) k<p.r.l.length:=cDg (λz hz=>by
 obtain⟨y,hy,rfl⟩:=cD.1 hz
 obtain⟨j,rfl,hj,_⟩:=oR.1 hy
 obtain⟨h1,h2⟩:=zG (p:=p) (b:=b) (k:=j) hj
 exact⟨_,h1,h2⟩) hk
def cUz:Ord:=.joinX [] [2000,1,2002,2004,5,2006] (.alt 3 (.alt 7 (trS [2008,9,1010]) (.alt 9 (trS [7,2008,1010]) .nil)) (.alt 7 (.alt 3 (trS [2008,9,1010]) (.alt 9 (trS [3,2008,1010]) .nil)) (.alt 9 (.alt 3 (trS [7,2008,1010]) (.alt 7 (trS [3,2008,1010]) .nil)) .nil)))
abbrev tN (p:ProgM) (b:BasM) (m:MatM) (F G:Nat->Int):BL:=[(42,0,p.C),(45,0,b.C),(45,0,[.v (.slice none 0 0),.v (.slice none 0 0)]),(24,0,m.C),(3,1,dR p.c.l.length λj=>iC (F j)),(3,1,dR p.r.l.length λj=>iC (G j)),(45,0,[.s 4 p.c.l.length,.s 5 p.r.l.length])]
theorem oT {p:ProgM} {b:BasM} {m:MatM} {F G:Nat->Int}:scB 7 (tN p b m F G):=aB rfl (aB rfl (aB rfl (aB rfl (aB (bU (aY λ_ _=>rfl)) (aB (bU (aY λ_ _=>rfl)) (aB rfl aZ))))))
abbrev aOs (W ch:Sl Int):List (Nat×DV):=[(2,.c (.p 0 0)),(3,.c (.p 1 0)),(4,.c (.p 2 0)),(9,.c (.p 3 0)),(8,.c (cI W)),(10,.c (cI ch)),(12,.c (.p 6 0))]
abbrev bJm (p:ProgM) (W ch:Sl Int) (k:Nat):List (Nat×DV):=(60,.c (iC k))::(58,.c (aAs p.c))::(59,.c (iC (p.c.l.length:Nat)))::aOs W ch
noncomputable abbrev aCv (p:ProgM) (b:BasM) (k j:Nat):Int:=if j<k then stC (p.c.l.getD j default) b.c.l j else 0
theorem bJn {p:ProgM} {b:BasM} {k:Nat} {v:Int} (hv:v=stC (p.c.l.getD k default) b.c.l k) (j:Nat):(if j=k then v else aCv p b k j)=aCv p b (k+1) j:=by
 by_cases e:j=k
 ·rw[if_pos e,e,hv];exact(if_pos (bE k)).symm
 rw[if_neg e]
 show(if j<k then _ else _)=if j<k+1 then _ else _
 by_cases e2:j<k
 ·rw[if_pos e2,if_pos oM]
 rw[if_neg e2,if_neg oM]
theorem bJo {p:ProgM} {b:BasM} {k n:Nat} {v:Int} (hv:v=stC (p.c.l.getD k default) b.c.l k):((3,1,dR n λj=>iC (if j=k then v else aCv p b k j)):TypeId×Nat×List CV)=(3,1,dR n λj=>iC (aCv p b (k+1) j)):=congrArg (λl=>((3,1,l):TypeId×Nat×List CV)) (gH λj _=>by rw[bJn hv])
theorem aCf {n j:Nat} {F:Nat->Int} {v:Int} (h:j<n):lZ (dR n λi=>iC (F i)) (j*1) [iC v]=(dR n λi=>iC (if i=j then v else F i))/\j*1+1<=(dR n λi=>iC (F i)).length:=gU (Q:=λi=>iC (if i=j then v else F i)) h λi _=>by
 by_cases e:i=j
 ·rw[if_pos e,if_pos e]
 rw[if_neg e,if_neg e]
abbrev cDh (W ch:Sl Int) (k:Nat):List (Nat×DV):=(105,.c (iC k))::(103,.c (cI ch))::(104,.c (iC (ch.l.length:Nat)))::aOs W ch
abbrev cDi (p:ProgM) (W ch:Sl Int) (k:Nat):List (Nat×DV):=(120,.c (iC k))::(119,.c (iC (p.r.l.length:Nat)))::aOs W ch
abbrev cDj (W ch lt:Sl Int) (k:Nat):List (Nat×DV):=(138,.c (iC k))::(136,.c (cI lt))::(137,.c (iC (lt.l.length:Nat)))::aOs W ch
theorem cDk {Q Q':Nat->Nat->Rat} {m:Nat} {O:List Int} (h:∀i k,i<m->k<O.length->Q i k=Q' i k):bdL Q m O=bdL Q' m O:=by unfold bdL;rw[aLi h]
theorem uK {n:Nat} {F:Nat->Int}:(dR n λj=>iC (F j))=((List.range n).map F).map iC:=by unfold dR;rw[kI];rfl
theorem aCg {n j:Nat} {F:Nat->Int} (hj:j<n):((List.range n).map F).getD j 0=F j:=by simp[aH,hj]
abbrev cDl (p:ProgM) (b:BasM) (m:MatM) (C R:List Int):BL:=[(42,0,p.C),(45,0,b.C),(45,0,[.v (.slice none 0 0),.v (.slice none 0 0)]),(24,0,m.C),(3,1,C.map iC),(3,1,R.map iC),(45,0,[.s 4 C.length,.s 5 R.length])]
theorem bQe {p:ProgM} {b:BasM} {m:MatM} {F G:Nat->Int}:tN p b m F G=cDl p b m ((List.range p.c.l.length).map F) ((List.range p.r.l.length).map G):=by
 unfold tN cDl
 rw[uK,uK,aO,aO,fI,fI]
abbrev bQf:FuncId:=18
theorem cVa:Ent Tryz.prog bQf:=aU func18 rfl kR
theorem cVb:Tryz.prog.funcs[bQf]? =some Tryz.f18:=func18
theorem cOa (p:ProgM) (b:BasM) {q:PrQ} {B:Nat} (h:PrV p q B) (hr:p.r.l.length<=12) (hc:p.c.l.length<=12) (hB:bd B (p.r.l.length*p.c.l.length)<=4398046511104):Ctr Tryz.prog bQf [] [.a p.C,.a b.C] [] (λg:BasM=>⟨.t [.a g.C,.c (iC 0)],[],RpR p q b g⟩):=by
 classical
 have hBB:B<=4398046511104:=h.hB
 have h1:=h.h1
 have hWl:(wnL p b).length<=p.c.l.length:=aJ iA (wJ _ _)
 have hCl:(iH p q b).length<=(wnL p b).length:=iA
 have n2:Ctr Tryz.prog aOk [true] [.c (iC (min (p.c.l.length:Int) (b.c.l.length:Int))),(KpS.o b).V aOl] (KpS.o b).B (λg:Sl Int=>⟨.c (cI g),(KpS.o b).B,g.l=fQ (λj=>b.c.l.getD j 0=2) (min p.c.l.length b.c.l.length)⟩):=by
  have n:=bSm (.o b) aOl (min p.c.l.length b.c.l.length) (λj=>b.c.l.getD j 0=2) oM λi hi=>cBz b i oM
  rw[show((min p.c.l.length b.c.l.length:Nat):Int)=min (p.c.l.length:Int) (b.c.l.length:Int) by omega] at n
  exact n
 refine aX gT cVa cVb rfl rfl rfl bL aS (aA gT mxd ⟨[],aKu p h,rfl,rfl,rfl,λ_ _=>⟨λhh=>absurd rfl hh,λ_=>aA gT mxd ⟨[],bSm .z aWh p.r.l.length (λ_=>True) oM λi _=>cBy i,rfl,rfl,rfl,λal hal=>⟨[1],n2,rfl,rfl,rfl,λW hW=>?_⟩⟩⟩⟩)
 replace hal:al.l=(List.range p.r.l.length).map λk:Nat=>(k:Int):=by rw[<-aHq,<-sY];exact hal
 replace hW:W.l=wnL p b:=(show W.l=_ from hW).trans (sY _)
 have hall:al.l.length=p.r.l.length:=by rw[hal];simp
 have hCA:CofA p al W (λk=>k) (atN (wnL p b)):=⟨λk hk=>⟨by rw[hall] at hk;rw[hal];simp[aH,hk],by show k<_;omega⟩,λk hk=>by
  rw[hW] at hk ⊢
  have:=(zH hk).2.1
  exact⟨(zH hk).1,by omega⟩,λk l hkl hl=>by
  rw[hW] at hl
  exact(gJ (P:=λj=>b.c.l.getD j 0=2) _).1.mono k l hkl hl,by omega,by rw[hW];omega⟩
 refine⟨[],bSj p al W h hCA,rfl,rfl,rfl,λm hm=>?_⟩
 rw[hall,hW] at hm
 replace hm:Mr m (λk=>jL (atN (wnL p b)) (wnL p b).length (q.M k)) p.r.l.length (wnL p b).length B:=hm
 have hmb:rbM (λk=>jL (atN (wnL p b)) (wnL p b).length (q.M k)) p.r.l.length B:=λk hk=>aKx (h.e k hk)
 have hmm:∀k l,k<l->l<(wnL p b).length->atN (wnL p b) k<atN (wnL p b) l:=(gJ (P:=λj=>b.c.l.getD j 0=2) _).1.mono
 have hmQ:∀i k,i<p.r.l.length->k<(wnL p b).length->mQ (λk=>jL (atN (wnL p b)) (wnL p b).length (q.M k)) i k=wnQ p q b i k:=λi k hi hk=>uI hmm (h.v i hi).2.1 hk
 have hBf:bd B (p.r.l.length*(wnL p b).length)<=4398046511104:=aJ (kY (cW _ hWl)) hB
 refine⟨[],bIv m hm hmb h1 hBf hr oM,rfl,rfl,rfl,λch hch=>?_⟩
 replace hch:ch.l=iH p q b:=(show ch.l=_ from hch).trans (aLi hmQ)
 refine⟨cUz,by kernel_rfl,Unit,λ_=>⟨aOs W ch++[],[],tN p b m (λ_=>0) λ_=>0,[]⟩,λ_=>True,?_,λ_ _=>?_⟩
 ·have k1:p.c.l.length<=maxLen:=by simp only[maxLen];omega
  have k2:p.r.l.length<=maxLen:=by simp only[maxLen];omega
  have fin1:∀(sl:List (Nat×DV)),wX (λ_=>true) [] [] [] sl->AllC sl (aOs W ch)->Gt 0 ⟨sl,[],[(42,0,p.C),(45,0,b.C),(45,0,[.v (.slice none 0 0),.v (.slice none 0 0)]),(24,0,m.C),(3,1,List.replicate p.c.l.length (iC 0)),(3,1,List.replicate p.r.l.length (iC 0)),(45,0,[.s 4 p.c.l.length,.s 5 p.r.l.length])],[]⟩ (σ:=Unit) (λ_=>⟨aOs W ch++[],[],tN p b m (λ_=>0) λ_=>0,[]⟩) λ_=>True:=λsl ht ha=>by
   refine @bF 0 _ (λ_=>true) [] (λt d ht=>by cases ht) Unit (λ_=>aOs W ch) (λ_=>tN p b m (λ_=>0) λ_=>0) (λ_=>[]) _ () trivial ht ?_ trivial ha (aC _) oT rfl
   rw[aAl,aAl]
   exact⟨rfl,rfl,rfl,rfl,rfl,rfl,rfl⟩
  have e1:∀{i j:Nat} {n:Nat},(List.replicate n (iC 0)).map (swC i j)=List.replicate n (iC 0):=rpm aP rfl
  refine⟨⟨p.c.l.length,⟨rfl,rfl,by show 8*_<=_;omega,k1⟩,rfl,⟨p.r.l.length,⟨rfl,rfl,by show 8*_<=_;omega,k2⟩,rfl,rfl,?_⟩,⟨rfl,p.r.l.length,⟨rfl,rfl,by show 8*_<=_;omega,k2⟩,rfl,?_⟩⟩,⟨p.r.l.length,⟨rfl,rfl,by show 8*_<=_;omega,k2⟩,rfl,⟨p.c.l.length,⟨rfl,rfl,by show 8*_<=_;omega,k1⟩,rfl,rfl,?_⟩,⟨rfl,p.c.l.length,⟨rfl,rfl,by show 8*_<=_;omega,k1⟩,rfl,?_⟩⟩,⟨rfl,⟨p.c.l.length,⟨rfl,rfl,by show 8*_<=_;omega,k1⟩,rfl,p.r.l.length,⟨rfl,rfl,by show 8*_<=_;omega,k2⟩,rfl,?_⟩,⟨p.r.l.length,⟨rfl,rfl,by show 8*_<=_;omega,k2⟩,rfl,p.c.l.length,⟨rfl,rfl,by show 8*_<=_;omega,k1⟩,rfl,?_⟩⟩⟩
  ·exact fin1 _ (by rfl) (by exact⟨rfl,rfl,rfl,rfl,rfl,rfl,rfl⟩)
  ·exact gsw 5 6 rfl rfl bL bL rfl ⟨_,e1,_,e1,bL,fin1 _ (by rfl) (by exact⟨rfl,rfl,rfl,rfl,rfl,rfl,rfl⟩)⟩
  ·exact gsw 4 5 rfl rfl bL bL rfl ⟨_,e1,_,e1,bL,fin1 _ (by rfl) (by exact⟨rfl,rfl,rfl,rfl,rfl,rfl,rfl⟩)⟩
  ·exact gsw 4 6 rfl rfl bL bL rfl ⟨_,e1,_,e1,bL,gsw 5 6 rfl rfl bL bL rfl ⟨_,e1,_,e1,bL,fin1 _ (by rfl) (by exact⟨rfl,rfl,rfl,rfl,rfl,rfl,rfl⟩)⟩⟩
  ·exact gsw 4 5 rfl rfl bL bL rfl ⟨_,e1,_,e1,bL,gsw 5 6 rfl rfl bL bL rfl ⟨_,e1,_,e1,bL,fin1 _ (by rfl) (by exact⟨rfl,rfl,rfl,rfl,rfl,rfl,rfl⟩)⟩⟩
  exact gsw 4 6 rfl rfl bL bL rfl ⟨_,e1,_,e1,bL,fin1 _ (by rfl) (by exact⟨rfl,rfl,rfl,rfl,rfl,rfl,rfl⟩)⟩
 refine cE (λ_=>true) (λk:Nat=>bJm p W ch k) (λk=>tN p b m (aCv p b k) λ_=>0) (λ_=>[]) (λk=>k<=p.c.l.length) (λk=>p.c.l.length-k) λhM=>⟨bF hM (chg:=λk:Nat=>bJm p W ch k) (bls:=λk=>tN p b m (aCv p b k) λ_=>0) (fls:=λ_=>[]) 0 (aC _) rfl ⟨rfl,rfl,rfl,rfl,rfl,rfl,rfl⟩ trivial ⟨rfl,rfl,rfl,rfl,rfl,rfl,rfl,rfl,rfl,rfl⟩ bL oT rfl,λk hk=>aA gT mxd ⟨λh2=>aA gT mxd ?_,λh2=>aA gT mxd ?_⟩⟩
 ·replace h2:(k:Int)<(p.c.l.length:Nat):=h2
  have hkn:k<p.c.l.length:=by omega
  refine⟨k,⟨rfl,hkn⟩,.seq [(0,false),(1,false),(2,false),(3,false),(4,false),(5,false),(6,true)],by kernel_rfl,[],cLp (p.c.l.getD k default),rfl,rfl,rfl,λ_ _=>⟨k,⟨rfl,hkn,cS hkn⟩,_,aCf hkn,.seq [(0,false),(1,false),(2,false),(3,false),(4,false),(5,false),(6,false),(7,false),(8,false),(9,false),(10,false),(11,false),(12,false),(13,false),(14,false),(15,false),(16,false),(17,false),(18,false),(19,false),(20,true),(21,false)],by kernel_rfl,k,λh5=>⟨rfl,?_⟩,k,λh13=>⟨rfl,?_⟩,λh1=>⟨[],bSf (p.c.l.getD k default) (b.c.l.getD k 0),rfl,rfl,rfl,λ_ _=>⟨λh4=>aA gT mxd ?_,λh4=>aA gT mxd ?_⟩⟩,λh1=>?_⟩⟩
  ·replace h5:(k:Int)<(b.c.l.length:Nat):=h5
   omega
  ·replace h13:(k:Int)<(b.c.l.length:Nat)/\_:=h13
   omega
  ·replace h1:(k:Int)<(b.c.l.length:Nat)/\b.c.l.getD k 0≠2:=h1
   have hkb:k<b.c.l.length:=by omega
   have hv:b.c.l.getD k 0=stC (p.c.l.getD k default) b.c.l k:=(if_pos ⟨⟨hkb,h1.2⟩,h4⟩).symm
   exact⟨.seq [(0,false),(1,false),(2,false),(3,false),(4,false),(5,false),(6,false),(7,false),(8,false),(9,true)],by kernel_rfl,k,⟨rfl,hkb⟩,k,⟨rfl,hkn,cS hkn⟩,_,aCf hkn,(k+1:Nat),wi,bF hM (chg:=λk:Nat=>bJm p W ch k) (bls:=λk=>tN p b m (aCv p b k) λ_=>0) (fls:=λ_=>[]) (k+1) ⟨hkn,show p.c.l.length-(k+1)<p.c.l.length-k by omega⟩ rfl ⟨rfl,rfl,rfl,rfl,(congrArg (λl=>((3,1,l):TypeId×Nat×List CV)) (gH λj _=>by rw[<-bJn hv];by_cases e:j=k<;>simp[e])),rfl,rfl⟩ trivial ⟨rfl,rfl,rfl,rfl,rfl,rfl,rfl,rfl,rfl,rfl⟩ bL oT rfl⟩
  ·have hv:dfC (p.c.l.getD k default)=stC (p.c.l.getD k default) b.c.l k:=(if_neg λhh=>h4 hh.2).symm
   exact⟨(k+1:Nat),wi,bF hM (chg:=λk:Nat=>bJm p W ch k) (bls:=λk=>tN p b m (aCv p b k) λ_=>0) (fls:=λ_=>[]) (k+1) ⟨hkn,show p.c.l.length-(k+1)<p.c.l.length-k by omega⟩ rfl ⟨rfl,rfl,rfl,rfl,bJo hv,rfl,rfl⟩ trivial ⟨rfl,rfl,rfl,rfl,rfl,rfl,rfl,rfl,rfl,rfl⟩ bL oT rfl⟩
  replace h1:¬((k:Int)<(b.c.l.length:Nat)/\b.c.l.getD k 0≠2):=h1
  have hv:dfC (p.c.l.getD k default)=stC (p.c.l.getD k default) b.c.l k:=(if_neg λhh=>h1 ⟨by have:=hh.1.1;omega,hh.1.2⟩).symm
  exact⟨(k+1:Nat),wi,bF hM (chg:=λk:Nat=>bJm p W ch k) (bls:=λk=>tN p b m (aCv p b k) λ_=>0) (fls:=λ_=>[]) (k+1) ⟨hkn,show p.c.l.length-(k+1)<p.c.l.length-k by omega⟩ rfl ⟨rfl,rfl,rfl,rfl,bJo hv,rfl,rfl⟩ trivial ⟨rfl,rfl,rfl,rfl,rfl,rfl,rfl,rfl,rfl,rfl⟩ bL oT rfl⟩
 replace h2:¬(k:Int)<(p.c.l.length:Nat):=h2
 obtain rfl:k=p.c.l.length:=by omega
 have hchl:ch.l.length<=12:=by rw[hch];omega
 have hCh:∀l,l<ch.l.length->ch.l.getD l 0=(atN (iH p q b) l:Nat)/\atN (iH p q b) l<W.l.length:=λl hl=>by rw[hch] at hl ⊢;rw[hW];exact aAx hl
 have hKp:∀l,l<ch.l.length->W.l.getD (atN (iH p q b) l) 0=(atN (wnL p b) (atN (iH p q b) l):Nat)/\atN (wnL p b) (atN (iH p q b) l)<p.c.l.length:=λl hl=>by
  have h3:=(hCh l hl).2
  rw[hW] at h3 ⊢
  have:=(zH h3).2.1
  exact⟨(zH h3).1,by omega⟩
 refine aA gT mxd ?_
 show Sd _ _ _ _ _ _
 refine cE (λ_=>true) (λg:Nat×(Nat->Int)=>cDh W ch g.1) (λg=>tN p b m g.2 λ_=>0) (λ_=>[]) (λg=>g.1<=ch.l.length/\(∀l,l<g.1->g.2 (atN (wnL p b) (atN (iH p q b) l))=2)/\∀j,(∀l,l<g.1->atN (wnL p b) (atN (iH p q b) l)≠j)->g.2 j=aCv p b p.c.l.length j) (λg=>ch.l.length-g.1) λhM=>⟨bF hM (chg:=λg:Nat×(Nat->Int)=>cDh W ch g.1) (bls:=λg=>tN p b m g.2 λ_=>0) (fls:=λ_=>[]) (0,aCv p b p.c.l.length) ⟨aC _,λl hl=>absurd hl (aD _),λj _=>rfl⟩ rfl ⟨rfl,rfl,rfl,rfl,rfl,rfl,rfl⟩ trivial ⟨rfl,rfl,rfl,rfl,rfl,rfl,rfl,rfl,rfl,rfl⟩ bL oT rfl,λ⟨k,F⟩ ⟨hk2,hF2,hF0⟩=>aA gT mxd ⟨λh3=>aA gT mxd ?_,λh3=>aA gT mxd ?_⟩⟩
 all_goals
  replace hk2:k<=ch.l.length:=hk2
  replace hF2:∀l,l<k->F (atN (wnL p b) (atN (iH p q b) l))=2:=hF2
  replace hF0:∀j,(∀l,l<k->atN (wnL p b) (atN (iH p q b) l)≠j)->F j=aCv p b p.c.l.length j:=hF0
 ·replace h3:(k:Int)<(ch.l.length:Nat):=h3
  have hkn:k<ch.l.length:=by omega
  obtain⟨c1,c2⟩:=hCh k hkn
  obtain⟨c3,c4⟩:=hKp k hkn
  refine⟨k,⟨rfl,hkn⟩,.seq [(0,false),(1,false),(2,false),(3,false),(4,false),(5,false),(6,false),(7,true)],by kernel_rfl,atN (iH p q b) k,⟨c1,c2⟩,atN (wnL p b) (atN (iH p q b) k),⟨c3,c4,cS c4⟩,_,aCf c4,(k+1:Nat),wi,bF hM (chg:=λg:Nat×(Nat->Int)=>cDh W ch g.1) (bls:=λg=>tN p b m g.2 λ_=>0) (fls:=λ_=>[]) (k+1,λj=>if j=atN (wnL p b) (atN (iH p q b) k) then 2 else F j) ⟨⟨hkn,λl hl=>?_,λj hno=>?_⟩,show ch.l.length-(k+1)<ch.l.length-k by omega⟩ rfl ⟨rfl,rfl,rfl,rfl,rfl,rfl,rfl⟩ trivial ⟨rfl,rfl,rfl,rfl,rfl,rfl,rfl,rfl,rfl,rfl⟩ bL oT rfl⟩
  ·show(if _ then 2 else F _)=2
   by_cases e:atN (wnL p b) (atN (iH p q b) l)=atN (wnL p b) (atN (iH p q b) k)
   ·rw[if_pos e]
   rw[if_neg e]
   refine hF2 l ?_
   have hl':l<k+1:=hl
   by_cases e2:l=k
   ·exact absurd (by rw[e2]) e
   omega
  show(if _ then 2 else F j)=_
  rw[if_neg λe=>hno k (bE k) e.symm]
  exact hF0 j λl hl=>hno l (eM hl)
 replace h3:¬(k:Int)<(ch.l.length:Nat):=h3
 obtain rfl:k=ch.l.length:=by omega
 refine aA gT mxd ?_
 show Sd _ _ _ _ _ _
 refine cE (λ_=>true) (λk:Nat=>cDi p W ch k) (λk=>tN p b m F λj=>if j<k then 2 else 0) (λ_=>[]) (λk=>k<=p.r.l.length) (λk=>p.r.l.length-k) λhM=>⟨bF hM (chg:=λk:Nat=>cDi p W ch k) (bls:=λk=>tN p b m F λj=>if j<k then 2 else 0) (fls:=λ_=>[]) 0 (aC _) rfl ⟨rfl,rfl,rfl,rfl,rfl,rfl,rfl⟩ trivial ⟨rfl,rfl,rfl,rfl,rfl,rfl,rfl,rfl,rfl⟩ bL oT rfl,λk hk=>aA gT mxd ⟨λh4=>aA gT mxd ?_,λh4=>aA gT mxd ?_⟩⟩
 ·replace h4:(k:Int)<(p.r.l.length:Nat):=h4
  have hkn:k<p.r.l.length:=by omega
  refine⟨k,⟨rfl,hkn,cS hkn⟩,_,gU (Q:=λj=>iC (if j<k+1 then 2 else 0)) hkn (λj hj=>?_),(k+1:Nat),wi,bF hM (chg:=λk:Nat=>cDi p W ch k) (bls:=λk=>tN p b m F λj=>if j<k then 2 else 0) (fls:=λ_=>[]) (k+1) ⟨hkn,show p.r.l.length-(k+1)<p.r.l.length-k by omega⟩ rfl ⟨rfl,rfl,rfl,rfl,rfl,rfl,rfl⟩ trivial ⟨rfl,rfl,rfl,rfl,rfl,rfl,rfl,rfl,rfl⟩ bL oT rfl⟩
  by_cases e:j=k
  ·rw[if_pos e,if_pos oM];rfl
  rw[if_neg e]
  show iC (if j<k then 2 else 0)=iC (if j<k+1 then 2 else 0)
  by_cases e2:j<k
  ·rw[if_pos e2,if_pos oM]
  rw[if_neg e2,if_neg oM]
 replace h4:¬(k:Int)<(p.r.l.length:Nat):=h4
 obtain rfl:k=p.r.l.length:=by omega
 refine aA gT mxd ⟨.seq [(0,false),(1,false),(2,false),(3,false),(4,false),(5,false),(6,false),(10,false),(7,false),(8,true),(9,false)],by kernel_rfl,[],bQd b.r p.r.l.length oM,rfl,rfl,rfl,λor hor=>?_⟩
 replace hor:or.l=orL p b:=hor
 have hol:or.l.length=p.r.l.length:=by rw[hor];exact sZ
 have hSA:SelA p.r.l.length (wnL p b).length or ch (atN (orL p b)) (atN (iH p q b)):=⟨λk hk=>by rw[hor] at hk ⊢;exact zG hk,λk hk=>by rw[<-hW];exact hCh k hk,λk l hkl hl=>by
  rw[hch] at hl
  exact(gJ (P:=λj=>¬Dep (wnQ p q b) p.r.l.length (wnL p b).length j) _).1.mono k l hkl hl,by omega,by rw[hch];omega⟩
 refine⟨[],cNz m ch or hm hmb h1 (aJ (kY (by rw[hol,bP,hch];exact cW _ oM)) hB) oM oM hSA,rfl,rfl,rfl,λlt hlt=>?_⟩
 replace hlt:lt.l=ltL p q b:=by
  refine(show lt.l=_ from hlt).trans ?_
  rw[hor,hch]
  exact cDk λl i hl hi=>hmQ _ _ (zG hi).2 (aAx hl).2
 have hLt:∀l,l<lt.l.length->lt.l.getD l 0=(atN (ltL p q b) l:Nat)/\atN (ltL p q b) l<p.r.l.length:=λl hl=>by rw[hlt] at hl ⊢;exact aSw hl
 have hltl:lt.l.length<=12:=by
  rw[hlt]
  unfold ltL bdL
  rw[aO]
  have:=aFv (Q:=λl i=>wnQ p q b (atN (orL p b) i) (atN (iH p q b) l)) (a:=(iH p q b).length) (b:=(orL p b).length) (k:=(orL p b).length)
  rw[<-hor,hol] at this
  rw[<-hor,hol]
  omega
 refine cE (λ_=>true) (λg:Nat×(Nat->Int)=>cDj W ch lt g.1) (λg=>tN p b m F g.2) (λ_=>[]) (λg=>g.1<=lt.l.length/\(∀l,l<g.1->g.2 (atN (ltL p q b) l)=dfR (p.r.l.getD (atN (ltL p q b) l) default).s)/\∀i,i<p.r.l.length->(∀l,l<g.1->atN (ltL p q b) l≠i)->g.2 i=2) (λg=>lt.l.length-g.1) λhM=>⟨bF hM (chg:=λg:Nat×(Nat->Int)=>cDj W ch lt g.1) (bls:=λg=>tN p b m F g.2) (fls:=λ_=>[]) (0,λj=>if j<p.r.l.length then 2 else 0) ⟨aC _,λl hl=>absurd hl (aD _),λi hi _=>if_pos hi⟩ rfl ⟨rfl,rfl,rfl,rfl,rfl,rfl,rfl⟩ trivial ⟨rfl,rfl,rfl,rfl,rfl,rfl,rfl,rfl,rfl,rfl⟩ bL oT rfl,λ⟨k,G⟩ ⟨hk6,hG1,hG2⟩=>aA gT mxd ⟨λh6=>aA gT mxd ?_,λh6=>aA gT mxd ?_⟩⟩
 all_goals
  replace hk6:k<=lt.l.length:=hk6
  replace hG1:∀l,l<k->G (atN (ltL p q b) l)=dfR (p.r.l.getD (atN (ltL p q b) l) default).s:=hG1
  replace hG2:∀i,i<p.r.l.length->(∀l,l<k->atN (ltL p q b) l≠i)->G i=2:=hG2
 ·replace h6:(k:Int)<(lt.l.length:Nat):=h6
  have hkn:k<lt.l.length:=by omega
  obtain⟨c1,c2⟩:=hLt k hkn
  refine⟨k,⟨rfl,hkn⟩,.seq [(0,false),(1,false),(2,false),(3,false),(4,false),(5,false),(6,false),(7,false),(8,false),(9,false),(10,true)],by kernel_rfl,atN (ltL p q b) k,⟨c1,c2⟩,[],bSh (p.r.l.getD (atN (ltL p q b) k) default),rfl,rfl,rfl,λ_ _=>⟨atN (ltL p q b) k,⟨c1,c2,cS c2⟩,_,aCf c2,(k+1:Nat),wi,bF hM (chg:=λg:Nat×(Nat->Int)=>cDj W ch lt g.1) (bls:=λg=>tN p b m F g.2) (fls:=λ_=>[]) (k+1,λj=>if j=atN (ltL p q b) k then dfR (p.r.l.getD (atN (ltL p q b) k) default).s else G j) ⟨⟨hkn,λl hl=>?_,λi hi hno=>?_⟩,show lt.l.length-(k+1)<lt.l.length-k by omega⟩ rfl ⟨rfl,rfl,rfl,rfl,rfl,rfl,rfl⟩ trivial ⟨rfl,rfl,rfl,rfl,rfl,rfl,rfl,rfl,rfl,rfl⟩ bL oT rfl⟩⟩
  ·show(if _ then _ else G _)=_
   by_cases e:atN (ltL p q b) l=atN (ltL p q b) k
   ·rw[if_pos e,e]
   rw[if_neg e]
   refine hG1 l ?_
   have hl':l<k+1:=hl
   by_cases e2:l=k
   ·exact absurd (by rw[e2]) e
   omega
  show(if _ then _ else G i)=_
  rw[if_neg λe=>hno k (bE k) e.symm]
  exact hG2 i hi λl hl=>hno l (eM hl)
 replace h6:¬(k:Int)<(lt.l.length:Nat):=h6
 obtain rfl:k=lt.l.length:=by omega
 show Sd _ _ _ _ _ _
 rw[show tN p b m F (lt.l.length,G).snd=cDl p b m ((List.range p.c.l.length).map F) ((List.range p.r.l.length).map G) from bQe]
 obtain⟨CL,hCL⟩:∃CL,CL=(List.range p.c.l.length).map F:=⟨_,rfl⟩
 obtain⟨RL,hRL⟩:∃RL,RL=(List.range p.r.l.length).map G:=⟨_,rfl⟩
 rw[<-hCL,<-hRL]
 refine kU tSd 5 rfl bL (bR _) bL rfl λA a1=>⟨_,mA kB (bR _),jQ tSd 6 0 [.s 4 CL.length,cI ⟨A.map λb=>⟨b,0,none⟩,a1,RL⟩] rfl rfl rfl rfl (qW (k0:=1) rfl aGh) ?_⟩
 refine kU tSd 4 rfl bL (bR _) bL rfl λA2 a2=>⟨_,rfl,jQ tSd 6 1 [cI ⟨A2.map λb=>⟨b,0,none⟩,a2,CL⟩,cI ⟨A.map λb=>⟨b,0,none⟩,a1,RL⟩] rfl rfl rfl rfl (qW (k0:=0) rfl aGh) ?_⟩
 refine aA gT mxd ⟨⟨⟨A2.map λb=>⟨b,0,none⟩,a2,CL⟩,⟨A.map λb=>⟨b,0,none⟩,a1,RL⟩⟩,⟨by rw[hCL];simp,by rw[hRL];simp,λk hk=>?_,λj hj hno=>?_,λk hk=>?_,λi hi hno=>?_⟩,aM ⟨rfl,rfl⟩ rfl trivial⟩
 ·rw[<-hch] at hk
  show CL.getD _ 0=2
  rw[hCL,aCg (hKp k hk).2];exact hF2 k hk
 ·show CL.getD j 0=_
  rw[hCL,aCg hj,hF0 j λl hl=>hno l (by rw[<-hch];exact hl)];exact if_pos hj
 ·rw[<-hlt] at hk
  show RL.getD _ 0=_
  rw[hRL,aCg (hLt k hk).2];exact hG1 k hk
 show RL.getD i 0=2
 rw[hRL,aCg hi];exact hG2 i hi λl hl=>hno l (by rw[<-hlt];exact hl)
end Go.Proofs.YtghncoghdcmdfaaGreat
