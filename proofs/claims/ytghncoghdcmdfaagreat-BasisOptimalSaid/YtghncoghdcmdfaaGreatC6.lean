/- gridmarketlaw13.BasisOptimal: the basic solution and the basic multipliers of a primal and dual feasible basis prove each other optimal Part 6 of 6: Bd Bn Be Bf Bg Bh Bi Bj Sz Bk Bl Bm Bo Bp Bq Br Bs Bt Bu Bv Bw Bx By Bz Qn Qo Zy. -/
import Derived.Test.YtghncoghdcmdfaaGreatRows
import Derived.WalkKit
import Derived.ProofKit
import Derived.OpenShut
import Derived.JoinedCond
import Derived.ShutString
import Derived.ChangeOld
import Derived.Below
import Derived.Deep.SlicePairs
import Derived.Test.YtghncoghdcmdfaaGreatC5
set_option maxHeartbeats 4000000
set_option linter.unusedVariables false
set_option linter.unusedSimpArgs false
namespace Go.Proofs.YtghncoghdcmdfaaGreat
open Go.Vg _root_.Go.Proofs.Tryz
open Go.Vm
open Go.Vy hiding val
set_option maxRecDepth 20000
structure EcS (a t B:Nat) (ws:Nat->Sl EntM) (es:Nat->List En) (x:Nat->Nat):Prop where
 row:∀i,i<t->Ek (ws i).l (es i)
 ok:∀i,i<t->VOk (es i) (a:Nat)
 rb:∀i,i<t->rbE (es i) B
 ne:∀i,i<t->0<(es i).length
 ld:∀i,i<t->((es i).getD 0 default).1=(x i:Nat)
theorem aEa {es:List En} {n:Int} (h:VOk es n) (hl:0<es.length):Vm.get es (es.getD 0 default).1=(es.getD 0 default).2/\(es.getD 0 default).2≠0/\(0<=(es.getD 0 default).1/\(es.getD 0 default).1<n)/\∀z,z<(es.getD 0 default).1->Vm.get es z=0:=by
 have hm:=fX hl
 refine⟨sF h.1 hm,(h.2 _ hm).2.2,⟨(h.2 _ hm).1,(h.2 _ hm).2.1⟩,λz hz=>Vm.get_none λe he h2=>?_⟩
 cases es with
 |nil=>cases he
 |cons e0 es=>
  have h0:((e0::es).getD 0 default)=e0:=rfl
  rw[h0] at hz
  rcases bR.1 he with rfl|h3
  ·omega
  have:=(rK.1 h.1).1 e h3;omega
theorem bDx {r w rs:List En} {n:Int} (hr:VOk r n) (hrl:0<r.length) (hw:VOk w n) (hwl:0<w.length) (hx:(w.getD 0 default).1=(r.getD 0 default).1) (hm:MgR (λa b=>a+ -((r.getD 0 default).2/(w.getD 0 default).2)*b) r w rs):VOk rs n/\∀e∈rs,(r.getD 0 default).1<e.1:=by
 have hv:=aOx hm hr hw
 refine⟨hv,λe he=>aT λhn=>?_⟩
 have h1:=sF hv.1 he
 have h2:=(hv.2 e he).2.2
 obtain⟨r1,r2,_,r4⟩:=aEa hr hrl
 obtain⟨w1,w2,_,w4⟩:=aEa hw hwl
 have hg:=hm.g e.1
 rw[h1] at hg
 refine h2 (hg.trans ?_)
 show Vm.get r e.1+ -((r.getD 0 default).2/(w.getD 0 default).2)*Vm.get w e.1=0
 rcases Int.lt_or_eq_of_le (rF.1 hn) with h3|h3
 ·rw[r4 _ h3,w4 _ (by rw[hx];exact h3),bZ,bM]
 rw[h3,r1,<-hx,w1]
 have:-((r.getD 0 default).2/(w.getD 0 default).2)*(w.getD 0 default).2=-((r.getD 0 default).2/(w.getD 0 default).2*(w.getD 0 default).2):=by grind
 rw[this,rP w2];grind
theorem bVm {q:Rat} {B:Nat} (h1:1<=B) (h:rb q B):rb q⁻¹ B:=by
 have e1:=zQ (a:=(q.den:Int)) (b:=q.num)
 have e2:=zR (a:=(q.den:Int)) (b:=q.num)
 rw[<-Rat.inv_def] at e1 e2
 simp only[eY,eB] at e1 e2
 exact⟨aG e1 h.2,by have:=h.1;omega⟩
structure RdG where
 v:Sl EntM
 r:List En
 c:Nat
 cf:Nat->Rat
structure RdI (a t B:Nat) (es:Nat->List En) (v0:List En) (g:RdG):Prop where
 v:Ek g.v.l g.r
 ok:VOk g.r (a:Nat)
 c:g.c<=a
 lo:∀e∈g.r,(g.c:Int)<=e.1
 rb:rbE g.r (bd B g.c)
 sum:∀z,Vm.get g.r z=Vm.get v0 z+cA (λk=>Vm.get (es k) z*g.cf k) t
def cKm:Ord:=.joinX [] [2000,2001,2002,3,2004,2005,2006,7] (.alt 8 (trS [2009,2010,2011,12,1013,2014]) (.alt 12 (trS [8,2009,2010,2011,1013,2014]) .nil))
abbrev rdS (b:Nat) (v:Sl EntM):List (Nat×DV):=[(1,.c (cF v)),(0,.c (.v (.map (some b))))]
abbrev bVn:FuncId:=127
theorem cKn:Ent Tryz.prog bVn:=aW func127 rfl kR
theorem cKo:Tryz.prog.funcs[bVn]? =some Tryz.f127:=func127
theorem cEs (b:Nat) (G:Nat->List CV) (v:Sl EntM) {a t B:Nat} {ws:Nat->Sl EntM} {es:Nat->List En} {x:Nat->Nat} {v0:List En} (hG:G 0=kvL x (λi=>cF (ws i)) t) (h:EcS a t B ws es x) (hv:Ek v.l v0) (hv0:VOk v0 (a:Nat)) (hb:rbE v0 B) (h1:1<=B) (hB:bd B a<=4398046511104) (ha:a<=4096):CtrF Tryz.prog bVn [] [.c (.v (.map (some b))),.c (cF v)] [] [mpF b G] (λg:RdG=>⟨.c (cF g.v),[],[mpF b G],RdI a t B es v0 g/\(g.r=[]\/∀i,i<t->((x i:Nat):Int)≠(g.r.getD 0 default).1)⟩):=by
 have hB0:B<=4398046511104:=aG (nD (aC a)) hB
 refine nZ gT cKn cKo rfl rfl rfl bL aS (aA gT mxd ?_)
 refine cO (λ_=>true) (λg:RdG=>rdS b g.v) (λ_=>[]) (λ_=>[mpF b G]) (λg=>RdI a t B es v0 g) (λg=>a+1-g.c) λhM=>⟨bS hM (chg:=λg:RdG=>rdS b g.v) (bls:=λ_=>[]) (fls:=λ_=>[mpF b G]) ⟨v,v0,0,λ_=>0⟩ ⟨hv,hv0,aC _,λe he=>(hv0.2 e he).1,hb,λz=>?_⟩ rfl trivial ⟨rfl,trivial⟩ ⟨rfl,rfl⟩ bL aY rfl,λg hI=>aA gT mxd ⟨λh2=>aA gT mxd ?_,λh2=>aA gT mxd ?_⟩⟩
 ·rw[fP λk _=>bZ _,bM]
 ·replace h2:(0:Int)<(g.v.l.length:Nat):=h2
  have hln:=hI.v.ln
  have hrl:0<g.r.length:=by omega
  obtain⟨r1,r2,r3,r4⟩:=aEa hI.ok hrl
  have hi0:=(hI.v.e 0 hrl)
  refine⟨0,⟨rfl,by omega⟩,0,0,⟨Nat.one_pos,rfl⟩,λi c' h4 h5=>?_,λh4=>?_⟩
  ·rw[show(mpF b G).get 0=kvL x (λi=>cF (ws i)) t from hG] at h4 h5
   obtain⟨hit,hz,hc'⟩:=aAi h4 h5
   subst hc'
   have hw:=h.row i hit
   have hwo:=h.ok i hit
   have hwl:=h.ne i hit
   have hwn:=hw.ln
   obtain⟨w1,w2,w3,w4⟩:=aEa hwo hwl
   have hj0:=hw.e 0 hwl
   have hlx:((es i).getD 0 default).1=(g.r.getD 0 default).1:=by rw[h.ld i hit,<-hz];exact hi0.1
   have hca:g.c<a:=by have:=hI.lo _ (fX hrl);omega
   have hbc:bd B (g.c+1)<=4398046511104:=aG (nD hca) hB
   have hbs:bd B (g.c+1)=4*bd B g.c+1:=rfl
   have hb0:B<=bd B g.c:=nD (aC _)
   have hb1:=xV h1 g.c
   have h1':1<=bd B g.c:=hb1
   have rv:=hI.rb _ (fX hrl)
   have rw':=(h.rb i hit _ (fX hwl)).le hb0
   have rf:rb ((g.r.getD 0 default).2/((es i).getD 0 default).2) (bd B g.c+bd B g.c):=by rw[jT];exact fI rv (bVm h1' rw')
   have hwE:Ev (ws i).l (es i) (bd B g.c):=hw.ev λe he=>(h.rb i hit e he).le hb0
   have hwR:rbE (es i) (bd B g.c):=λe he=>(h.rb i hit e he).le hb0
   have hvE:=hI.v.ev hI.rb
   have hlr:=jY hI.ok
   have hlw:=jY hwo
   have hdv:=aOn (g.v.l.getD 0 default).v ((ws i).l.getD 0 default).v (Cr.rq hi0.2 (rv.le oM)) (Cr.rq hj0.2 (rw'.le oM)) w2
   refine⟨cKm,by kernel_rfl,RatM,λf=>⟨[(5,.c (cF (ws i))),(7,.c (.p 0 0)),(1,.c (cF g.v)),(0,.c (.v (.map (some b))))]++[],[],[(62,0,f.C)],[mpF b G]⟩,λf=>Cr f ((g.r.getD 0 default).2/((es i).getD 0 default).2),⟨0,⟨rfl,by omega⟩,0,⟨rfl,by omega⟩,?_⟩,λf hf=>?_⟩
   ·exact⟨⟨[],hdv,rfl,rfl,rfl,λf hf=>⟨rfl,rfl,bS hM (chg:=λ_:RatM=>[(5,.c (cF (ws i))),(7,.c (.p 0 0)),(1,.c (cF g.v)),(0,.c (.v (.map (some b))))]) (bls:=λf=>[(62,0,f.C)]) (fls:=λ_=>[mpF b G]) f hf rfl rfl ⟨rfl,trivial⟩ ⟨rfl,rfl,rfl,rfl⟩ bL (aB rfl aY) rfl⟩⟩,rfl,[],hdv,rfl,rfl,rfl,λf hf=>⟨rfl,bS hM (chg:=λ_:RatM=>[(5,.c (cF (ws i))),(7,.c (.p 0 0)),(1,.c (cF g.v)),(0,.c (.v (.map (some b))))]) (bls:=λf=>[(62,0,f.C)]) (fls:=λ_=>[mpF b G]) f hf rfl rfl ⟨rfl,trivial⟩ ⟨rfl,rfl,rfl,rfl⟩ bL (aB rfl aY) rfl⟩⟩
   replace hf:Cr f ((g.r.getD 0 default).2/((es i).getD 0 default).2):=hf
   refine⟨[],bAo f (Cr.rq hf (rf.le oM)),rfl,rfl,rfl,λn hn=>⟨[],bBg g.v (ws i) n hvE hwE hI.rb hwR hb1 (Cr.rq hn (xR rf)) (xR rf) oM hI.ok.1 hwo.1 oM oM,rfl,rfl,rfl,λy ⟨rs,hy,hm⟩=>bS hM (chg:=λg:RdG=>rdS b g.v) (bls:=λ_=>[]) (fls:=λ_=>[mpF b G]) ⟨y,rs,g.c+1,upd g.cf i (g.cf i+ -((g.r.getD 0 default).2/((es i).getD 0 default).2))⟩ ⟨?_,show a+1-(g.c+1)<a+1-g.c by omega⟩ rfl trivial ⟨rfl,trivial⟩ ⟨rfl,rfl⟩ bL aY rfl⟩⟩
   obtain⟨s1,s2⟩:=bDx hI.ok hrl hwo hwl hlx hm
   refine⟨hy,s1,hca,λe he=>?_,λe he=>?_,λz=>?_⟩
   ·have:=s2 e he
    have:=hI.lo _ (fX hrl)
    show((g.c+1:Nat):Int)<=e.1
    omega
   ·exact(bMb hm hI.ok.1 hwo.1 hb1 hI.rb hwR (xR rf) e he).le (by show _<=bd B (g.c+1);omega)
   rw[hm.g z,hI.sum z,aDu hit]
   grind
  rw[show(mpF b G).get 0=kvL x (λi=>cF (ws i)) t from hG] at h4
  refine aA gT mxd ⟨g,⟨hI,.inr λi hi e=>?_⟩,kD rfl trivial ⟨rfl,trivial⟩ bL aY rfl aS⟩
  have h5:=aDx (x:=x) (V:=λi=>cF (ws i)) hi
  exact h4 i _ (h5.1.trans (congrArg (λz=>some (iC z)) (e.trans hi0.1.symm))) h5.2
 replace h2:¬(0:Int)<(g.v.l.length:Nat):=h2
 have hln:=hI.v.ln
 have hr0:g.r=[]:=bH oM
 exact aA gT mxd ⟨g,⟨hI,.inl hr0⟩,kD rfl trivial ⟨rfl,trivial⟩ bL aY rfl aS⟩
theorem bVo (Q:Nat->Nat->Rat) (r c:Nat):∃E t pv,Ech Q E r c c t pv:=by
 have h:∀C,C<=c->∃E t pv,Ech Q E r c C t pv:=λC=>by
  induction C with
  |zero=>exact λ_=>⟨Q,0,λ_=>0,Ech.start _⟩
  |succ C ih=>
   intro hC
   obtain⟨E,t,pv,h⟩:=ih oM
   by_cases hk:∃k,t<=k/\k<r/\E k C≠0
   ·obtain⟨k,h1,h2,h3⟩:=hk
    exact⟨_,_,_,h.step h1 h2 h3⟩
   exact⟨E,t,pv,h.skip λi h1 h2=>aT λh3=>hk ⟨i,h1,h2,h3⟩⟩
 exact h c (aJ c)
theorem bDy (Q:Nat->Nat->Rat) {r c:Nat} (h:r<c):∃x:Nat->Rat,(∃i,i<c/\x i≠0)/\Nul Q r c x:=by
 obtain⟨E,t,pv,he⟩:=bVo Q r c
 have:=he.tr
 exact aT λhn=>absurd (he.full.2 hn) oM
def Free (Q:Nat->Nat->Rat) (r c:Nat):Prop:=∀x,Nul Q r c x->∀i,i<c->x i=0
theorem Free.le {Q:Nat->Nat->Rat} {r c:Nat} (h:Free Q r c):c<=r:=aT λhn=>by
 obtain⟨x,⟨i,hi,hx⟩,h3⟩:=bDy Q (r:=r) (c:=c) oM
 exact hx (h x h3 i hi)
def Dep (Q:Nat->Nat->Rat) (r c j:Nat):Prop:=∃x:Nat->Rat,x j=1/\(∀i,j<i->x i=0)/\Nul Q r c x
structure Enm (P:Nat->Prop) (n m:Nat) (e:Nat->Nat):Prop where
 lt:∀k,k<m->e k<n
 mono:∀k l,k<l->l<m->e k<e l
 mem:∀k,k<m->P (e k)
 all:∀j,j<n->P j->∃k,k<m/\e k=j
theorem Enm.inj {P:Nat->Prop} {n m:Nat} {e:Nat->Nat} (h:Enm P n m e) {k l:Nat} (hk:k<m) (hl:l<m) (he:e k=e l):k=l:=by
 rcases eP k l with h1|h1|h1
 ·have:=h.mono k l h1 hl;omega
 ·exact h1
 have:=h.mono l k h1 hk;omega
def spr (m:Nat) (e:Nat->Nat) (y:Nat->Rat) (j:Nat):Rat:=cA (λl=>if e l=j then y l else 0) m
theorem aBw {m c:Nat} {e:Nat->Nat} {y f:Nat->Rat} (he:∀k,k<m->e k<c):cA (λj=>f j*spr m e y j) c=cA (λl=>f (e l)*y l) m:=by
 have h1:cA (λj=>f j*spr m e y j) c=cA (λj=>cA (λl=>f j*(if e l=j then y l else 0)) m) c:=bP λj _=>jP.symm
 rw[h1,qQ]
 refine bP λl hl=>?_
 rw[kG (m:=e l) (he l hl) λj hj=>by rw[if_neg (fV hj),bZ],if_pos rfl]
theorem aJb {m:Nat} {e:Nat->Nat} {y:Nat->Rat} {k:Nat} (hk:k<m) (hi:∀l,l<m->e l=e k->l=k):spr m e y (e k)=y k:=by
 unfold spr
 have h1:cA (λl=>if e l=e k then y l else 0) m=cA (λl=>if l=k then y l else 0) m:=bP λl hl=>by
  by_cases h:e l=e k
  ·rw[if_pos h,if_pos (hi l hl h)]
  rw[if_neg h,if_neg λhh=>h (by rw[hh])]
 rw[h1,kG (m:=k) hk λj hj=>if_neg hj,if_pos rfl]
theorem aJc {m:Nat} {e:Nat->Nat} {y:Nat->Rat} {j:Nat} (h:∀l,l<m->e l=j->y l=0):spr m e y j=0:=fP λl hl=>by
 by_cases h1:e l=j
 ·rw[if_pos h1];exact h l hl h1
 rw[if_neg h1]
theorem aSw {y:Nat->Rat}:∀{m:Nat},(∃k,k<m/\y k≠0)->∃k,k<m/\y k≠0/\∀l,k<l->l<m->y l=0
 |0,⟨k,hk,_⟩=>absurd hk (aD _)
 |m+1,⟨k,hk,hy⟩=>by
  by_cases h:y m=0
  ·have hkm:k<m:=by
    rcases cX (dJ hk) with h1|h1
    ·exact h1
    rw[h1] at hy;exact absurd h hy
   obtain⟨k',h1,h2,h3⟩:=aSw ⟨k,hkm,hy⟩
   refine⟨k',by omega,h2,λl hl hlm=>?_⟩
   rcases cX (dJ hlm) with h4|h4
   ·exact h3 l hl h4
   rw[h4];exact h
  exact⟨m,bE m,h,λl hl hlm=>by omega⟩
theorem bVp {Q:Nat->Nat->Rat} {r c m k:Nat} {e:Nat->Nat} {y:Nat->Rat} (he:∀k,k<m->e k<c) (hk:k<m) (hy:y k≠0) (hl:∀l,l<m->l≠k->y l≠0->e l<e k) (hi:∀l,l<m->e l=e k->l=k) (h:Nul (λi l=>Q i (e l)) r m y):Dep Q r c (e k):=by
 refine⟨spr m e λl=>(y k)⁻¹*y l,?_,λj hj=>aJc λl hlm hle=>?_,λi hir=>?_⟩
 ·rw[aJb hk hi];exact kY _ hy
 ·by_cases h0:y l=0
  ·rw[h0,bZ]
  by_cases h1:l=k
  ·subst h1;omega
  have:=hl l hlm h1 h0;omega
 rw[aBw he]
 have h1:cA (λl=>Q i (e l)*((y k)⁻¹*y l)) m=(y k)⁻¹*cA (λl=>Q i (e l)*y l) m:=by
  rw[<-jP];exact bP λl _=>by grind
 rw[h1,h i hir,bZ]
theorem Enm.free {Q:Nat->Nat->Rat} {r c m:Nat} {e:Nat->Nat} (h:Enm (λj=>¬Dep Q r c j) c m e):Free (λi k=>Q i (e k)) r m:=λy hy=>aT λhn=>by
 have hex:∃k,k<m/\y k≠0:=aT λh1=>hn λk hk=>aT λh2=>h1 ⟨k,hk,h2⟩
 obtain⟨k,h1,h2,h3⟩:=aSw hex
 refine h.mem k h1 (bVp h.lt h1 h2 (λl hl hlk hyl=>?_) (λl hl he=>h.inj hl h1 he) hy)
 rcases eP l k with h4|h4|h4
 ·exact h.mono l k h4 h1
 ·exact absurd h4 hlk
 exact absurd (h3 l h4 hl) hyl
theorem Enm.span {B:Nat->Nat->Rat} {m R t:Nat} {K:Nat->Nat} (h:Enm (λi=>¬Dep B m R i) R t K) {x:Nat->Rat} (hx:∀k,k<t->cA (λb=>B b (K k)*x b) m=0):∀i,i<R->cA (λb=>B b i*x b) m=0:=λi=>by
 induction i using Nat.strongRecOn with
 |ind i ih=>
  intro hi
  by_cases hd:Dep B m R i
  ·obtain⟨y,h1,h2,h3⟩:=hd
   have e1:cA (λl=>y l*cA (λb=>B b l*x b) m) R=0:=by
    have e2:cA (λl=>y l*cA (λb=>B b l*x b) m) R=cA (λl=>cA (λb=>y l*(B b l*x b)) m) R:=bP λl _=>jP.symm
    rw[e2,qQ]
    refine fP λb hb=>?_
    have e3:cA (λl=>y l*(B b l*x b)) R=x b*cA (λl=>B b l*y l) R:=by
     rw[<-jP];exact bP λl _=>by grind
    rw[e3,h3 b hb,bZ]
   have e4:cA (λl=>y l*cA (λb=>B b l*x b) m) R=cA (λl=>if l=i then cA (λb=>B b l*x b) m else 0) R:=bP λl hl=>by
    rcases eP l i with h4|h4|h4
    ·rw[ih l h4 hl,if_neg oM,bZ]
    ·rw[if_pos h4,h4,h1,jW]
    rw[h2 l h4,if_neg oM,cY]
   rw[e4,kG (m:=i) hi λj hj=>if_neg hj,if_pos rfl] at e1
   exact e1
  obtain⟨k,hk,rfl⟩:=h.all i hi hd
  exact hx k hk
theorem Enm.square {B:Nat->Nat->Rat} {m R t:Nat} {K:Nat->Nat} (h:Enm (λi=>¬Dep B m R i) R t K) (hf:Free (λi b=>B b i) R m):t=m/\Free (λk b=>B b (K k)) t m:=by
 have h1:Free (λk b=>B b (K k)) t m:=λx hx=>hf x λi hi=>h.span hx i hi
 have h2:=h1.le
 have h3:=h.free.le
 exact⟨by omega,h1⟩
theorem Free.tr {S:Nat->Nat->Rat} {n:Nat} (h:Free S n n):Free (λi j=>S j i) n n:=λy hy k hk=>aT λhyk=>by
 obtain⟨n,rfl⟩:∃n',n=n'+1:=⟨n-1,by omega⟩
 obtain⟨x,⟨i,hi,hxi⟩,h3⟩:=bDy (λi=>S (skp k i)) (bE n)
 have hall:Nul S (n+1) (n+1) x:=by
  have e1:cA (λl=>y l*cA (λj=>S l j*x j) (n+1)) (n+1)=0:=by
   have e2:cA (λl=>y l*cA (λj=>S l j*x j) (n+1)) (n+1)=cA (λl=>cA (λj=>y l*(S l j*x j)) (n+1)) (n+1):=bP λl _=>jP.symm
   rw[e2,qQ]
   refine fP λj hj=>?_
   have e3:cA (λl=>y l*(S l j*x j)) (n+1)=x j*cA (λl=>S l j*y l) (n+1):=by
    rw[<-jP];exact bP λl _=>by grind
   rw[e3,hy j hj,bZ]
  rw[wF hk] at e1
  rw[fP (n:=n) λl hl=>by rw[h3 l hl,bZ],bM] at e1
  have e5:cA (λj=>S k j*x j) (n+1)=0:=by
   rcases pZ.1 e1 with h4|h4
   ·exact absurd h4 hyk
   exact h4
  intro l hl
  by_cases hlk:l=k
  ·rw[hlk];exact e5
  have:∃l',l'<n/\skp k l'=l:=by
   unfold skp
   by_cases h5:l<k
   ·exact⟨l,by omega,by split<;>omega⟩
   exact⟨l-1,by omega,by split<;>omega⟩
  obtain⟨l',h5,rfl⟩:=this
  exact h3 l' h5
 exact hxi (h x hall i hi)
structure IdS (Q:Nat->Nat->Rat) (a b j t:Nat) (W:Nat->Nat->Rat) (x:Nat->Nat):Prop where
 lt:∀i,i<t->x i<a
 nz:∀i,i<t->W i (x i)≠0
 z:∀i,i<t->∀z,z<x i->W i z=0
 inj:∀i k,i<t->k<t->x i=x k->i=k
 A:∀i,i<t->∃y:Nat->Rat,(∀l,j<=l->y l=0)/\∀z,z<a->W i z=cA (λl=>Q z l*y l) b
 B:∀l,l<j->∃c:Nat->Rat,∀z,z<a->Q z l=cA (λi=>W i z*c i) t
theorem IdS.start {Q:Nat->Nat->Rat} {a b:Nat} {W:Nat->Nat->Rat} {x:Nat->Nat}:IdS Q a b 0 0 W x:=⟨λ_ h=>absurd h (aD _),λ_ h=>absurd h (aD _),λ_ h=>absurd h (aD _),λ_ _ h=>absurd h (aD _),λ_ h=>absurd h (aD _),λ_ h=>absurd h (aD _)⟩
section ids
variable {Q:Nat->Nat->Rat} {a b j t:Nat} {W:Nat->Nat->Rat} {x:Nat->Nat} (h:IdS Q a b j t W x)
include h in
theorem IdS.comb (c:Nat->Rat):∃y:Nat->Rat,(∀l,j<=l->y l=0)/\∀z,z<a->cA (λi=>W i z*c i) t=cA (λl=>Q z l*y l) b:=by
 have key:∀s,s<=t->∃y:Nat->Rat,(∀l,j<=l->y l=0)/\∀z,z<a->cA (λi=>W i z*c i) s=cA (λl=>Q z l*y l) b:=λs=>by
  induction s with
  |zero=>exact λ_=>⟨λ_=>0,λ_ _=>rfl,λz _=>(fP λl _=>bZ _).symm⟩
  |succ s ih=>
   intro hs
   obtain⟨y,h1,h2⟩:=ih oM
   obtain⟨y',h3,h4⟩:=h.A s oM
   refine⟨λl=>y l+c s*y' l,λl hl=>by show y l+c s*y' l=0;rw[h1 l hl,h3 l hl,bZ,bM],λz hz=>?_⟩
   show cA (λi=>W i z*c i) s+W s z*c s=_
   rw[h2 z hz,h4 z hz]
   have e:cA (λl=>Q z l*(y l+c s*y' l)) b=cA (λl=>Q z l*y l+c s*(Q z l*y' l)) b:=bP λl _=>by grind
   rw[e,jO];grind
 exact key t (aJ t)
include h in
theorem IdS.lead {r:Nat->Rat} {c:Nat->Rat} {z0:Nat} (hr:∀z,z<a->r z=cA (λi=>W i z*c i) t) (h0:z0<a) (hn:r z0≠0) (hz:∀z,z<z0->r z=0):∃i,i<t/\x i=z0:=by
 have hex:∃i,i<t/\c i≠0:=aT λhno=>hn (by
  rw[hr z0 h0]
  refine fP λi hi=>?_
  rw[aT λhc=>hno ⟨i,hi,hc⟩,bZ])
 have hmin:∀n,(∃i,i<t/\c i≠0/\x i<n)->∃i,i<t/\c i≠0/\∀k,k<t->c k≠0->x i<=x k:=λn=>by
  induction n with
  |zero=>exact λ⟨i,_,_,h3⟩=>absurd h3 (aD _)
  |succ n ih=>
   rintro⟨i,h1,h2,h3⟩
   by_cases e:∃k,k<t/\c k≠0/\x k<n
   ·exact ih e
   exact⟨i,h1,h2,λk hk hck=>aT λhlt=>e ⟨k,hk,hck,by omega⟩⟩
 obtain⟨i,hi,hci,hm⟩:=hmin a (by obtain⟨i,h1,h2⟩:=hex;exact⟨i,h1,h2,h.lt i h1⟩)
 have hxi:=h.lt i hi
 have e1:r (x i)=W i (x i)*c i:=by
  rw[hr _ hxi]
  have e:cA (λk=>W k (x i)*c k) t=cA (λk=>if k=i then W i (x i)*c i else 0) t:=bP λk hk=>by
   by_cases e1:k=i
   ·rw[if_pos e1,e1]
   rw[if_neg e1]
   by_cases e2:c k=0
   ·rw[e2,bZ]
   have h5:=hm k hk e2
   have h6:x i≠x k:=λe3=>e1 (h.inj i k hi hk e3).symm
   rw[h.z k hk (x i) oM,cY]
  rw[e,kG (m:=i) hi λk hk=>if_neg hk,if_pos rfl]
 have e2:r (x i)≠0:=by
  rw[e1]
  intro h5
  rcases pZ.1 h5 with h6|h6
  ·exact h.nz i hi h6
  exact hci h6
 have e3:∀z,z<x i->r z=0:=λz hzx=>by
  rw[hr z oM]
  refine fP λk hk=>?_
  by_cases e4:c k=0
  ·rw[e4,bZ]
  have:=hm k hk e4
  rw[h.z k hk z oM,cY]
 refine⟨i,hi,?_⟩
 rcases eP (x i) z0 with h5|h5|h5
 ·exact absurd (hz _ h5) e2
 ·exact h5
 exact absurd (e3 _ h5) hn
include h in
theorem IdS.no {r:Nat->Rat} {c:Nat->Rat} (hj:j<b) (hr:∀z,z<a->r z=Q z j+cA (λi=>W i z*c i) t) (h0:∀z,z<a->r z=0):Dep Q a b j/\IdS Q a b (j+1) t W x:=by
 obtain⟨y,h1,h2⟩:=h.comb c
 constructor
 ·refine⟨λl=>y l+(if l=j then 1 else 0),by show y j+_=1;rw[h1 j (aJ j),if_pos rfl];grind,λl hl=>by show y l+_=0;rw[h1 l (fG hl),if_neg oM];grind,λz hz=>?_⟩
  have e:cA (λl=>Q z l*(y l+(if l=j then 1 else 0))) b=cA (λl=>Q z l*y l+1*(Q z l*(if l=j then 1 else 0))) b:=bP λl _=>by grind
  rw[e,jO,<-h2 z hz,kG (m:=j) hj λl hl=>by rw[if_neg hl,bZ],if_pos rfl]
  have:=hr z hz
  rw[h0 z hz] at this
  grind
 refine⟨h.lt,h.nz,h.z,h.inj,λi hi=>?_,λl hl=>?_⟩
 ·obtain⟨y,h3,h4⟩:=h.A i hi
  exact⟨y,λl hl=>h3 l oM,h4⟩
 by_cases e:l=j
 ·subst e
  refine⟨λi=>-c i,λz hz=>?_⟩
  have e2:cA (λi=>W i z* -c i) t=-1*cA (λi=>W i z*c i) t:=by rw[<-jP];exact bP λi _=>by grind
  have:=hr z hz
  rw[h0 z hz] at this
  rw[e2];grind
 exact h.B l oM
include h in
theorem IdS.yes {r:Nat->Rat} {c:Nat->Rat} {z0:Nat} (hj:j<b) (hr:∀z,z<a->r z=Q z j+cA (λi=>W i z*c i) t) (h0:z0<a) (hn:r z0≠0) (hz:∀z,z<z0->r z=0) (hx:∀i,i<t->x i≠z0):¬Dep Q a b j/\IdS Q a b (j+1) (t+1) (upd W t r) (upd x t z0):=by
 have sw:∀(f:Nat->Rat) (z:Nat),cA (λi=>upd W t r i z*f i) (t+1)=cA (λi=>W i z*f i) t+r z*f t:=λf z=>by
  show cA _ t+upd W t r t z*f t=_
  rw[bN,bP (g:=λi=>W i z*f i) λi hi=>by rw[bD oM]]
 constructor
 ·rintro⟨y,h1,h2,h3⟩
  have key:∀s,s<=j->∃d:Nat->Rat,∀z,z<a->cA (λl=>Q z l*y l) s=cA (λi=>W i z*d i) t:=λs=>by
   induction s with
   |zero=>exact λ_=>⟨λ_=>0,λz _=>(fP λi _=>bZ _).symm⟩
   |succ s ih=>
    intro hs
    obtain⟨d,h4⟩:=ih oM
    obtain⟨d',h5⟩:=h.B s oM
    refine⟨λi=>d i+y s*d' i,λz hz=>?_⟩
    show cA (λl=>Q z l*y l) s+Q z s*y s=_
    have e:cA (λi=>W i z*(d i+y s*d' i)) t=cA (λi=>W i z*d i+y s*(W i z*d' i)) t:=bP λi _=>by grind
    rw[e,jO,h4 z hz,h5 z hz];grind
  obtain⟨d,hd⟩:=key j (aJ j)
  obtain⟨i,hi,he⟩:=h.lead (r:=r) (c:=λi=>c i-d i) (z0:=z0) (λz hza=>by
   have e1:cA (λl=>Q z l*y l) (j+1)=0:=by
    rw[<-h3 z hza]
    exact(aAh hj λl hl _=>by rw[h2 l oM,bZ]).symm
   replace e1:cA (λl=>Q z l*y l) j+Q z j*y j=0:=e1
   rw[h1,hd z hza] at e1
   have e2:cA (λi=>W i z*(c i-d i)) t=cA (λi=>W i z*c i+ -1*(W i z*d i)) t:=bP λi _=>by grind
   rw[e2,jO,hr z hza];grind) h0 hn hz
  exact hx i hi he
 refine⟨λi hi=>?_,λi hi=>?_,λi hi z hzi=>?_,λi k hi hk he=>?_,λi hi=>?_,λl hl=>?_⟩
 ·by_cases e:i=t
  ·subst e;rw[bN];exact h0
  rw[bD e];exact h.lt i oM
 ·by_cases e:i=t
  ·subst e;rw[bN,bN];exact hn
  rw[bD e,bD e];exact h.nz i oM
 ·by_cases e:i=t
  ·subst e;rw[bN];rw[bN] at hzi;exact hz z hzi
  rw[bD e];rw[bD e] at hzi;exact h.z i oM z hzi
 ·by_cases e:i=t
  ·by_cases e2:k=t
   ·rw[e,e2]
   rw[e,bN,bD e2] at he;exact absurd he.symm (hx k oM)
  by_cases e2:k=t
  ·rw[e2,bN,bD e] at he;exact absurd he (hx i oM)
  rw[bD e,bD e2] at he;exact h.inj i k oM oM he
 ·by_cases e:i=t
  ·subst e
   obtain⟨y,h1,h2⟩:=h.comb c
   refine⟨λl=>y l+(if l=j then 1 else 0),λl hl=>by show y l+_=0;rw[h1 l oM,if_neg oM];grind,λz hz=>?_⟩
   rw[bN]
   have e:cA (λl=>Q z l*(y l+(if l=j then 1 else 0))) b=cA (λl=>Q z l*y l+1*(Q z l*(if l=j then 1 else 0))) b:=bP λl _=>by grind
   rw[e,jO,<-h2 z hz,kG (m:=j) hj λl hl=>by rw[if_neg hl,bZ],if_pos rfl,hr z hz]
   grind
  rw[bD e]
  obtain⟨y,h3,h4⟩:=h.A i oM
  exact⟨y,λl hl=>h3 l oM,h4⟩
 by_cases e:l=j
 ·subst e
  refine⟨λi=>if i=t then 1 else-c i,λz hz=>?_⟩
  rw[sw,if_pos rfl]
  have e2:cA (λi=>W i z*(if i=t then 1 else-c i)) t=-1*cA (λi=>W i z*c i) t:=by rw[<-jP];exact bP λi hi=>by rw[if_neg oM];grind
  rw[e2,hr z hz];grind
 obtain⟨d,hd⟩:=h.B l oM
 refine⟨λi=>if i=t then 0 else d i,λz hz=>?_⟩
 rw[sw,if_pos rfl,bZ,bM,hd z hz]
 exact bP λi hi=>by rw[if_neg oM]
end ids
theorem bDz {Q Q':Nat->Nat->Rat} {a b j:Nat} {rk:Nat->Nat} (hl:∀i,i<a->rk i<a) (hi:∀i k,i<a->k<a->rk i=rk k->i=k) (hq:∀i l,i<a->l<b->Q' (rk i) l=Q i l):Dep Q' a b j↔Dep Q a b j:=by
 have hn:∀x,Nul Q' a b x↔Nul Q a b x:=λx=>⟨λh i hia=>by
  rw[<-h (rk i) (hl i hia)]
  exact bP λl hlb=>by rw[hq i l hia hlb],λh z hz=>by
  obtain⟨i,hia,rfl⟩:=oD hl hi z hz
  rw[<-h i hia]
  exact bP λl hlb=>by rw[hq i l hia hlb]⟩
 exact⟨λ⟨x,h1,h2,h3⟩=>⟨x,h1,h2,(hn x).1 h3⟩,λ⟨x,h1,h2,h3⟩=>⟨x,h1,h2,(hn x).2 h3⟩⟩
theorem aAl {x x':Nat->Nat} {V V':Nat->CV}:∀{k:Nat},(∀i,i<k->x i=x' i/\V i=V' i)->kvL x V k=kvL x' V' k
 |0,_=>rfl
 |k+1,h=>by
  show kvL x V k++_=kvL x' V' k++_
  rw[aAl λi hi=>h i (eA hi),(h k (bE k)).1,(h k (bE k)).2]
theorem bMt {B m:Nat}:∀n,bd (bd B m) n=bd B (m+n)
 |0=>rfl
 |n+1=>by show 4*bd (bd B m) n+1=4*bd B (m+n)+1;rw[bMt n]
noncomputable def nE (P:Nat->Prop) (k:Nat):List Int:=@fJ P (λ_=>Classical.propDecidable _) k
theorem kH {P:Nat->Prop} {k:Nat} (h:P k):nE P (k+1)=nE P k++[(k:Int)]:=@wH P (λ_=>Classical.propDecidable _) k h
theorem oE {P:Nat->Prop} {k:Nat} (h:¬P k):nE P (k+1)=nE P k:=@sJ P (λ_=>Classical.propDecidable _) k h
theorem jQ {P:Nat->Prop} {k:Nat}:(nE P k).length<=k:=@qZ P (λ_=>Classical.propDecidable _) k
theorem sL {P:Nat->Prop} [DecidablePred P]:∀k,fJ P k=nE P k
 |0=>rfl
 |k+1=>by
  by_cases h:P k
  ·rw[wH h,kH h,sL k]
  rw[sJ h,oE h,sL k]
noncomputable abbrev nF (Q:Nat->Nat->Rat) (a b k:Nat):List Int:=nE (λj=>¬Dep Q a b j) k
theorem bEa {Q:Nat->Nat->Rat} {a b k:Nat} (h:¬Dep Q a b k):nF Q a b (k+1)=nF Q a b k++[(k:Int)]:=kH h
theorem bKe {Q:Nat->Nat->Rat} {a b k:Nat} (h:Dep Q a b k):nF Q a b (k+1)=nF Q a b k:=oE λhh=>hh h
theorem aLz {Q:Nat->Nat->Rat} {a b k:Nat}:(nF Q a b k).length<=k:=jQ
structure InG where
 j:Nat
 t:Nat
 G:Nat->List CV
 ws:Nat->Sl EntM
 es:Nat->List En
 x:Nat->Nat
structure InI (Q:Nat->Nat->Rat) (a b B:Nat) (g:InG):Prop where
 j:g.j<=b
 G:g.G 0=kvL g.x (λi=>cF (g.ws i)) g.t
 e:EcS a g.t (bd B (a*g.j)) g.ws g.es g.x
 s:IdS Q a b g.j g.t (λi z=>Vm.get (g.es i) (z:Nat)) g.x
abbrev idB (m:MatM) (L:List Int):BL:=[(24,0,m.C),(3,1,L.map iC)]
theorem aPu {m:MatM} {L:List Int}:scB 2 (idB m L):=aB rfl (aB (bT (cJ _)) aY)
abbrev inS (d:Sl (Sl EntM)) (mb b j:Nat) (L:List Int):List (Nat×DV):=[(16,.c (iC j)),(14,.c (mV d)),(15,.c (iC b)),(4,.c (.v (.map (some mb)))),(5,.c (.s 1 L.length))]
abbrev bEb:FuncId:=57
theorem cEt:Ent Tryz.prog bEb:=aW func57 rfl kR
theorem cEu:Tryz.prog.funcs[bEb]? =some Tryz.f57:=func57
theorem bEc (m:MatM) {M:Nat->List En} {a b B:Nat} (h:Mr m M a b B) (hb:rbM M a B) (h1:1<=B) (hB:bd B (a*b)<=4398046511104) (ha:a<=12) (hbn:b<=4096):Ctr Tryz.prog bEb [] [.a m.C] [] (λg:Sl Int=>⟨.t [.c (cM g),.c (iC 0)],[],g.l=nF (mQ M) a b b⟩):=by
 have hB0:B<=4398046511104:=aG (nD (aC (a*b))) hB
 refine aX gT cEt cEu rfl rfl rfl bL aS (aA gT mxd ⟨[],aDm _ h hB0 oM hbn,rfl,rfl,rfl,λ_ _=>⟨λh2=>absurd trivial h2,λ_=>aA gT mxd λmb=>⟨[],cEr m h hb h1 hB0 ha hbn,rfl,rfl,rfl,λ⟨d,rs,rk⟩ hS=>?_⟩⟩⟩)
 replace hS:SpF M a b d rs rk:=hS
 obtain⟨Q,hQ⟩:∃Q:Nat->Nat->Rat,Q=λz j=>Vm.get (rs j) (z:Nat):=⟨_,rfl⟩
 have hdp:∀j,Dep Q a b j↔Dep (mQ M) a b j:=λj=>bDz hS.lt hS.inj λi l hi hl=>by rw[hQ];exact hS.get i l hi hl
 have hrb:=hS.rb B h1 hb
 refine bOv 5 3 1 rfl bL ?_
 refine cO (λ_=>true) (λg:InG=>inS d mb b g.j (nF (mQ M) a b g.j)) (λg=>idB m (nF (mQ M) a b g.j)) (λg=>[mpF mb g.G]) (λg=>InI Q a b B g) (λg=>b-g.j) λhM=>⟨bS hM (chg:=λg:InG=>inS d mb b g.j (nF (mQ M) a b g.j)) (bls:=λg=>idB m (nF (mQ M) a b g.j)) (fls:=λg=>[mpF mb g.G]) ⟨0,0,λ_=>[],λ_=>cP,λ_=>[],λ_=>0⟩ ⟨aC _,rfl,⟨λ_ h=>absurd h (aD _),λ_ h=>absurd h (aD _),λ_ h=>absurd h (aD _),λ_ h=>absurd h (aD _),λ_ h=>absurd h (aD _)⟩,IdS.start⟩ rfl ⟨rfl,rfl⟩ ⟨rfl,trivial⟩ ⟨rfl,rfl,?_,rfl,rfl⟩ bL aPu rfl,λg hI=>aA gT mxd ⟨λh2=>aA gT mxd ?_,λh2=>aA gT mxd ?_⟩⟩
 ·show((d.l.length:Nat):Int)=(b:Nat);rw[hS.ln]
 ·replace h2:(g.j:Int)<(b:Nat):=h2
  have hjb:g.j<b:=by omega
  have hdl:=hS.ln
  have hab:a*g.j+a<=a*b:=by rw[<-uQ];exact cN a hjb
  have hbb:bd (bd B (a*g.j)) a=bd B (a*(g.j+1)):=by rw[bMt,uQ]
  have hll:=aLz (Q:=mQ M) (a:=a) (b:=b) (k:=g.j)
  have hv:=hS.ok g.j hjb
  refine⟨g.j,⟨rfl,by omega⟩,[1000],cEs mb g.G (d.l.getD g.j cP) hI.G hI.e (hS.row g.j hjb) hv (λe he=>(hrb g.j hjb e he).le (nD (aC _))) (xV h1 _) (by rw[hbb];exact aG (nD (by rw[uQ];exact hab)) hB) oM,rfl,rfl,rfl,λy hy=>?_⟩
  obtain⟨hy1,hy2⟩:=hy
  replace hy1:RdI a g.t (bd B (a*g.j)) g.es (rs g.j) y:=hy1
  replace hy2:y.r=[]\/∀i,i<g.t->((g.x i:Nat):Int)≠(y.r.getD 0 default).1:=hy2
  have hyl:=hy1.v.ln
  have hsum:∀z,z<a->Vm.get y.r (z:Nat)=Q z g.j+cA (λi=>Vm.get (g.es i) (z:Nat)*y.cf i) g.t:=λz _=>by rw[hQ];exact hy1.sum _
  have hle:∀i e,e∈g.es i->rb e.2 (bd B (a*g.j))->rb e.2 (bd B (a*(g.j+1))):=λi e _ h=>h.le (nD (by rw[uQ];omega))
  have hS0:IdS Q a b g.j g.t (λi z=>Vm.get (g.es i) (z:Nat)) g.x:=hI.s
  refine⟨λh3=>aA gT mxd ?_,λh3=>aA gT mxd ?_⟩
  ·replace h3:(0:Int)<(y.v.l.length:Nat):=h3
   have hrl:0<y.r.length:=by omega
   obtain⟨r1,r2,r3,r4⟩:=aEa hy1.ok hrl
   obtain⟨z0,hz0⟩:∃z0:Nat,(y.r.getD 0 default).1=(z0:Nat):=⟨(y.r.getD 0 default).1.toNat,by omega⟩
   have hx:∀i,i<g.t->g.x i≠z0:=λi hi e=>by
    rcases hy2 with h4|h4
    ·rw[h4] at hrl;exact absurd hrl (tC 0)
    exact h4 i hi (by rw[hz0,e])
   have he0:=(hy1.v.e 0 hrl)
   obtain⟨n1,n2⟩:=hS0.yes (r:=λz=>Vm.get y.r (z:Nat)) (c:=y.cf) (z0:=z0) hjb hsum oM (by show Vm.get y.r (z0:Nat)≠0;rw[<-hz0,r1];exact r2) (λz hz=>r4 _ oM) hx
   have n1':¬Dep (mQ M) a b g.j:=λh=>n1 ((hdp g.j).2 h)
   have hyes:=bEa n1'
   refine⟨0,⟨rfl,by omega⟩,0,0,z0,⟨Nat.one_pos,rfl,he0.1.trans hz0,λi c' h4 h5=>?_⟩,apI (x:=nF (mQ M) a b g.j) oM,(λc hc=>by rw[aI.1 hc];rfl),(g.j+1:Nat),wi,bS hM (chg:=λg:InG=>inS d mb b g.j (nF (mQ M) a b g.j)) (bls:=λg=>idB m (nF (mQ M) a b g.j)) (fls:=λg=>[mpF mb g.G]) ⟨g.j+1,g.t+1,upd g.G 0 (g.G 0++[iC (z0:Nat),cF y.v]),upd g.ws g.t y.v,upd g.es g.t y.r,upd g.x g.t z0⟩ ⟨⟨hjb,?_,⟨λi hi=>?_,λi hi=>?_,λi hi=>?_,λi hi=>?_,λi hi=>?_⟩,?_⟩,show b-(g.j+1)<b-g.j by omega⟩ rfl ⟨rfl,?_⟩ ⟨rfl,trivial⟩ ⟨rfl,rfl,rfl,rfl,?_⟩ bL aPu rfl⟩
   ·rw[show(mpF mb g.G).get 0=kvL g.x (λi=>cF (g.ws i)) g.t from hI.G] at h4 h5
    obtain⟨h6,h7,_⟩:=aAi h4 h5
    exact hx i h6 oM
   ·refine(bN:upd g.G 0 _ 0=_).trans ?_
    have e1:kvL g.x (λi=>cF (g.ws i)) g.t=kvL (upd g.x g.t z0) (λi=>cF (upd g.ws g.t y.v i)) g.t:=aAl λi hi=>⟨(bD oM).symm,by rw[bD oM]⟩
    have e2:upd g.x g.t z0 g.t=z0:=bN
    have e3:upd g.ws g.t y.v g.t=y.v:=bN
    show g.G 0++_=kvL (upd g.x g.t z0) (λi=>cF (upd g.ws g.t y.v i)) g.t++[iC (upd g.x g.t z0 g.t:Nat),cF (upd g.ws g.t y.v g.t)]
    rw[e2,e3,<-e1,hI.G]
   ·by_cases e:i=g.t
    ·subst e;show Ek (upd g.ws g.t y.v g.t).l (upd g.es g.t y.r g.t);rw[bN,bN];exact hy1.v
    show Ek (upd g.ws g.t y.v i).l (upd g.es g.t y.r i);rw[bD e,bD e];exact hI.e.row i (by have:i<g.t+1:=hi;omega)
   ·by_cases e:i=g.t
    ·subst e;show VOk (upd g.es g.t y.r g.t) _;rw[bN];exact hy1.ok
    show VOk (upd g.es g.t y.r i) _;rw[bD e];exact hI.e.ok i (by have:i<g.t+1:=hi;omega)
   ·by_cases e:i=g.t
    ·subst e;show rbE (upd g.es g.t y.r g.t) (bd B (a*(g.j+1)));rw[bN,<-hbb];exact λe he=>(hy1.rb e he).le (nD hy1.c)
    show rbE (upd g.es g.t y.r i) (bd B (a*(g.j+1)));rw[bD e];exact λe' he=>hle i e' he (hI.e.rb i (by have:i<g.t+1:=hi;omega) e' he)
   ·by_cases e:i=g.t
    ·subst e;show 0<(upd g.es g.t y.r g.t).length;rw[bN];exact hrl
    show 0<(upd g.es g.t y.r i).length;rw[bD e];exact hI.e.ne i (by have:i<g.t+1:=hi;omega)
   ·by_cases e:i=g.t
    ·subst e;show((upd g.es g.t y.r g.t).getD 0 default).1=(upd g.x g.t z0 g.t:Nat);rw[bN,bN];exact hz0
    show((upd g.es g.t y.r i).getD 0 default).1=(upd g.x g.t z0 i:Nat);rw[bD e,bD e];exact hI.e.ld i (by have:i<g.t+1:=hi;omega)
   ·show IdS Q a b (g.j+1) (g.t+1) (λi z=>Vm.get (upd g.es g.t y.r i) (z:Nat)) (upd g.x g.t z0)
    have e:(λ(i z:Nat)=>Vm.get (upd g.es g.t y.r i) (z:Nat))=upd (λ(i z:Nat)=>Vm.get (g.es i) (z:Nat)) g.t λz=>Vm.get y.r (z:Nat):=funext λi=>by
     by_cases e:i=g.t
     ·subst e;rw[bN];funext z;rw[bN]
     rw[bD e];funext z;rw[bD e]
    rw[e];exact n2
   ·show(_,_,(nF (mQ M) a b g.j).map iC++[iC (g.j:Nat)])=(_,_,(nF (mQ M) a b (g.j+1)).map iC)
    rw[hyes,cH];rfl
   show(nF (mQ M) a b g.j).length+1=(nF (mQ M) a b (g.j+1)).length
   rw[hyes,aH];rfl
  replace h3:¬(0:Int)<(y.v.l.length:Nat):=h3
  have hr0:y.r=[]:=bH oM
  obtain⟨n1,n2⟩:=hS0.no (r:=λz=>Vm.get y.r (z:Nat)) (c:=y.cf) hjb hsum (λz _=>by show Vm.get y.r _=0;rw[hr0];rfl)
  have n1':Dep (mQ M) a b g.j:=(hdp g.j).1 n1
  have hno:=bKe n1'
  refine⟨(g.j+1:Nat),wi,bS hM (chg:=λg:InG=>inS d mb b g.j (nF (mQ M) a b g.j)) (bls:=λg=>idB m (nF (mQ M) a b g.j)) (fls:=λg=>[mpF mb g.G]) ⟨g.j+1,g.t,g.G,g.ws,g.es,g.x⟩ ⟨⟨hjb,hI.G,⟨hI.e.row,hI.e.ok,λi hi e he=>hle i e he (hI.e.rb i hi e he),hI.e.ne,hI.e.ld⟩,n2⟩,show b-(g.j+1)<b-g.j by omega⟩ rfl ⟨rfl,?_⟩ ⟨rfl,trivial⟩ ⟨rfl,rfl,rfl,rfl,?_⟩ bL aPu rfl⟩
  ·show(_,_,(nF (mQ M) a b g.j).map iC)=(_,_,(nF (mQ M) a b (g.j+1)).map iC)
   rw[hno]
  show(nF (mQ M) a b g.j).length=(nF (mQ M) a b (g.j+1)).length
  rw[hno]
 replace h2:¬(g.j:Int)<(b:Nat):=h2
 have hgj:g.j=b:=by have:=hI.j;omega
 show Sd _ _ _ _ _ _
 refine yR 5 1 (λj=>[iC ((nF (mQ M) a b g.j).getD j 0)]) rfl rfl (λj hj=>qT j hj) (by rw[aU,bU]) bL (cJ _) bL λA c _ _=>aA gT mxd ⟨⟨A,c,nF (mQ M) a b g.j⟩,by show nF (mQ M) a b g.j=_;rw[hgj],aM ⟨rfl,rfl⟩ rfl trivial⟩
theorem cEv {p:Prop} {hp:Decidable p} (h:¬p) {ρ:Pl} {n:Nat} {w:World} {v:Value} (hv:Hd ρ n w (.c (.b p hp)) v):Hd ρ n w (.c (.v (.bool false))) v:=by
 have:=hv.inv_c.inv_b
 rw[this,decide_eq_false h];exact .c (Rc.v _)
theorem aFp {p:Prop} {hp:Decidable p} (h:p) {ρ:Pl} {n:Nat} {w:World} {v:Value} (hv:Hd ρ n w (.c (.b p hp)) v):Hd ρ n w (.c (.v (.bool true))) v:=by
 have:=hv.inv_c.inv_b
 rw[this,decide_eq_true h];exact .c (Rc.v _)
abbrev nB (n:Int):BL:=[(3,0,[iC n])]
theorem aFq {n:Int}:scB 1 (nB n):=aB rfl aY
abbrev xN:FuncId:=191
theorem cEw:Ent Tryz.prog xN:=aW func191 rfl kR
theorem cEx:Tryz.prog.funcs[xN]? =some Tryz.f191:=func191
theorem bVq (n i:Int) (h:0<=i/\i<n):Ctr Tryz.prog xN [true] [.c (iC i),.c (.p 0 0)] (nB n) (λ_:Unit=>⟨pC False,nB n,True⟩):=
 aX gT cEw cEx rfl rfl rfl bL (eI rfl) (aA gT mxd ⟨(),trivial,fB ⟨λhh=>Or.elim hh (λhh=>absurd hh (rF.2 h.1)) λhh=>absurd hh (Int.not_le.2 h.2),False.elim⟩ rfl bL aFq rfl (eI rfl)⟩)
abbrev bVr:FuncId:=190
theorem cKp:Ent Tryz.prog bVr:=aW func190 rfl kR
theorem cKq:Tryz.prog.funcs[bVr]? =some Tryz.f190:=func190
theorem bMu (n:Int):Ctr Tryz.prog bVr [] [.c (iC n)] [] (λ_:Unit=>⟨.c (.f xN [] [(0,0)]),nB n,True⟩):=
 aX gT cKp cKq rfl rfl rfl bL aS (aA gT mxd ⟨(),trivial,fB rfl rfl (aC _) aFq rfl aAy⟩)
abbrev bVs:FuncId:=224
theorem cKr:Ent Tryz.prog bVs:=aW func224 rfl kR
theorem cKs:Tryz.prog.funcs[bVs]? =some Tryz.f224:=func224
theorem cEy (x:Sl Int) (n:Int) (hl:x.l.length<=4096) (h:∀k,k<x.l.length->0<=x.l.getD k 0/\x.l.getD k 0<n):Ctr Tryz.prog bVs [true] [.c (cM x),.c (.f xN [] [(0,0)])] (nB n) (λ_:Unit=>⟨.c (iC (-1)),nB n,True⟩):=by
 refine aX gT cKr cKs rfl rfl rfl bL (eI rfl) (aA gT mxd ?_)
 refine cO (λ_=>true) (λk:Nat=>[(8,.c (iC k)),(0,.c (cM x)),(1,.c (.f xN [] [(0,0)])),(7,.c (iC (x.l.length:Nat)))]) (λ_=>nB n) (λ_=>[]) (λk=>k<=x.l.length) (λk=>x.l.length-k) λhM=>⟨bS hM (chg:=λk:Nat=>[(8,.c (iC k)),(0,.c (cM x)),(1,.c (.f xN [] [(0,0)])),(7,.c (iC (x.l.length:Nat)))]) (bls:=λ_=>nB n) (fls:=λ_=>[]) 0 (aC _) rfl rfl trivial ⟨rfl,rfl,rfl,rfl⟩ bL aFq rfl,λk hk=>aA gT mxd ⟨λh2=>aA gT mxd ?_,λh2=>aA gT mxd ?_⟩⟩
 ·replace h2:(k:Int)<(x.l.length:Nat):=h2
  have hkn:k<x.l.length:=by omega
  exact⟨k,⟨rfl,hkn⟩,_,rfl,[0],bVq n _ (h k hkn),rfl,rfl,rfl,λ_ _=>⟨λhh=>hh.elim,λ_=>aA gT mxd ⟨(k+1:Nat),wi,bS hM (chg:=λk:Nat=>[(8,.c (iC k)),(0,.c (cM x)),(1,.c (.f xN [] [(0,0)])),(7,.c (iC (x.l.length:Nat)))]) (bls:=λ_=>nB n) (fls:=λ_=>[]) (k+1) ⟨hkn,show x.l.length-(k+1)<x.l.length-k by omega⟩ rfl rfl trivial ⟨rfl,rfl,rfl,rfl⟩ bL aFq rfl⟩⟩⟩
 exact aA gT mxd ⟨(),trivial,fB rfl rfl bL aFq rfl (eI rfl)⟩
abbrev bKf:FuncId:=192
theorem cKt:Ent Tryz.prog bKf:=aW func192 rfl kR
theorem cKu:Tryz.prog.funcs[bKf]? =some Tryz.f192:=func192
theorem bMv (x:Sl Int) (n:Int) (hl:x.l.length<=4096) (h:∀k,k<x.l.length->0<=x.l.getD k 0/\x.l.getD k 0<n):Ctr Tryz.prog bKf [true] [.c (cM x),.c (.f xN [] [(0,0)])] (nB n) (λ_:Unit=>⟨.c (.v (.bool false)),nB n,True⟩):=by
 have h1:Ctr Tryz.prog bKf [true] [.c (cM x),.c (.f xN [] [(0,0)])] (nB n) (λ_:Unit=>⟨pC False,nB n,True⟩):=
  aX gT cKt cKu rfl rfl rfl bL (eI rfl) (aA gT mxd ⟨[0],cEy x n hl h,rfl,rfl,rfl,λ_ _=>⟨(),trivial,fB ⟨λhh=>absurd hh (show ¬((0:Int)<=-1) by decide),False.elim⟩ rfl bL aFq rfl (eI rfl)⟩⟩)
 exact CtrF.ld h1 λg hg=>⟨(),trivial,λ_ _ _ _ hv=>cEv (λhh=>hh) hv,rfl,rfl⟩
theorem bMw (z:Int) (h:0<=z/\z<=16384):Ctr Tryz.prog bIj [] [.c (iC z)] [] (λ_:Unit=>⟨.c (.v (.bool true)),[],True⟩):=CtrF.ld (bBh z) λg hg=>⟨(),trivial,λ_ _ _ _ hv=>aFp h hv,rfl,rfl⟩
abbrev bVt:FuncId:=193
theorem cKv:Ent Tryz.prog bVt:=aW func193 rfl kR
theorem cKw:Tryz.prog.funcs[bVt]? =some Tryz.f193:=func193
theorem cEz (e f:EntM):Ctr Tryz.prog bVt [] [.a e.C,.a f.C] [] (λ_:Unit=>⟨.c (iC (cmE e.ix f.ix)),[],True⟩):=
 aX gT cKv cKw rfl rfl rfl bL aS (aA gT mxd ⟨[],bCf e.ix f.ix,rfl,rfl,rfl,λ_ _=>⟨(),trivial,aM rfl rfl trivial⟩⟩)
structure SelA (a b:Nat) (rs cs:Sl Int) (ρ κ:Nat->Nat):Prop where
 r:∀k,k<rs.l.length->rs.l.getD k 0=(ρ k:Nat)/\ρ k<a
 c:∀k,k<cs.l.length->cs.l.getD k 0=(κ k:Nat)/\κ k<b
 m:∀k l,k<l->l<cs.l.length->κ k<κ l
 rl:rs.l.length<=4096
 cl:cs.l.length<=12
abbrev bKg (m:MatM):BL:=[(24,0,m.C),(24,0,[iC 0,iC 0,.v (.slice none 0 0)])]
theorem aSx {m:MatM}:scB 2 (bKg m):=aB rfl (aB rfl aY)
abbrev bVu (rs cs:Sl Int) (mb k:Nat):List (Nat×DV):=[(53,.c (iC k)),(9,.c (.v (.map (some mb)))),(51,.c (cM cs)),(52,.c (iC (cs.l.length:Nat))),(3,.c (.p 0 0)),(6,.c (.p 1 0)),(1,.c (cM rs)),(2,.c (cM cs))]
abbrev bKh (rs:Sl Int) (mb k:Nat):List (Nat×DV):=[(74,.c (iC k)),(72,.c (cM rs)),(73,.c (iC (rs.l.length:Nat))),(9,.c (.v (.map (some mb)))),(3,.c (.p 0 0)),(6,.c (.p 1 0)),(12,.c (.p 4 0))]
abbrev bEd (m:MatM) (u n:Nat) (Y:Nat->Sl EntM):BL:=[(24,0,m.C),(24,0,[iC 0,iC 0,.v (.slice none 0 0)]),(24,0,[iC u,iC n,.s 3 u]),(65,1,eJ u λj=>cF (Y j)),(24,0,[iC u,iC n,.s 3 u])]
theorem aSy {m:MatM} {u n:Nat} {Y:Nat->Sl EntM}:scB 5 (bEd m u n Y):=aB rfl (aB rfl (aB rfl (aB (bT (aZ λ_ _=>rfl)) (aB rfl aY))))
abbrev aPv (x:Sl EntM) (rs:Sl Int) (mb k t l:Nat):List (Nat×DV):=(85,.c (iC t))::(83,.c (cF x))::(84,.c (iC (x.l.length:Nat)))::(15,.c (.s 5 l))::(13,.c (iC k))::bKh rs mb k
abbrev aMa (m:MatM) (u n:Nat) (Y:Nat->Sl EntM) (L:List EntM):BL:=bEd m u n Y++[(82,4,ecs L)]
theorem aBx {m:MatM} {u n:Nat} {Y:Nat->Sl EntM} {L:List EntM}:scB 6 (aMa m u n Y L):=aB rfl (aB rfl (aB rfl (aB (bT (aZ λ_ _=>rfl)) (aB rfl (aB (bT (hJ L)) aY)))))
abbrev bEe (x:Sl EntM) (rs:Sl Int) (mb k t l:Nat) (d:CV) (v z:Nat):List (Nat×DV):=(94,.c (iC z))::(92,.c d)::(93,.c (iC v))::(17,.c (.p 6 0))::aPv x rs mb k t l
abbrev aVb (m:MatM) (u n:Nat) (Y:Nat->Sl EntM) (L:List EntM) (e:EntM):BL:=aMa m u n Y L++[(82,0,e.C)]
theorem aJd {m:MatM} {u n:Nat} {Y:Nat->Sl EntM} {L:List EntM} {e:EntM}:scB 7 (aVb m u n Y L e):=aB rfl (aB rfl (aB rfl (aB (bT (aZ λ_ _=>rfl)) (aB rfl (aB (bT (hJ L)) (aB rfl aY))))))
theorem cFa (n:Nat):PmL (nL n λi=>i) n:=by
 have e:∀i,i<n->(nL n λi=>i).getD i 0=(i:Nat):=λi hi=>by unfold nL;simp[hi]
 exact⟨by unfold nL;simp,λi hi=>⟨i,e i hi,hi⟩,λi j hi hj h=>by rw[e i hi,e j hj] at h;omega⟩
theorem bKi {zs ys:List EntM} {es:List En} {n:Nat} (hz:zs.Perm ys) (hs:SrE zs ys.length) (hy:Ek ys es) (ho:VOk es (n:Nat)):Ek zs es:=by
 obtain⟨rs,r1,r2⟩:=aSj hz hy
 have e:es.map (rnE (nL n λi=>i))=es:=by
  refine(eK λe he=>?_).trans (wU es)
  have h1:=ho.2 e he
  have h2:(nL n λi=>i).getD e.1.toNat 0=(e.1.toNat:Nat):=by unfold nL;simp[show e.1.toNat<n by omega]
  show((nL n λi=>i).getD e.1.toNat 0,e.2)=e
  rw[h2,show((e.1.toNat:Nat):Int)=e.1 by omega]
 have h1:Asc rs:=bCm r1 (by rw[hz.length_eq];exact hs) (by rw[e];exact r2) ho (cFa n)
 rw[<-Vm.canon_ext rs es h1 ho.1 (λe he=>(ho.2 e (r2.subset he)).2.2) (λe he=>(ho.2 e he).2.2) λi=>Vm.get_perm r2 i]
 exact r1
abbrev bEf:FuncId:=128
theorem cFb:Ent Tryz.prog bEf:=aW func128 rfl kR
theorem cFc:Tryz.prog.funcs[bEf]? =some Tryz.f128:=func128
theorem bVv (m:MatM) (rs cs:Sl Int) {M:Nat->List En} {a b B:Nat} {ρ κ:Nat->Nat} (h:Mr m M a b B) (hb:rbM M a B) (h1:1<=B) (hB:B<=4398046511104) (ha:a<=4096) (hbn:b<=4096) (hA:SelA a b rs cs ρ κ):Ctr Tryz.prog bEf [] [.a m.C,.c (cM rs),.c (cM cs)] [] (λg:MatM=>⟨.t [.a g.C,.c (iC 0)],[],Mk g (λk=>iV κ cs.l.length (M (ρ k))) rs.l.length cs.l.length⟩):=by
 obtain⟨mr,mc,md⟩:=m
 obtain rfl:mr=(a:Nat):=h.r
 obtain rfl:mc=(b:Nat):=h.c
 have hrl:=hA.rl
 have hcl:=hA.cl
 refine aX gT cFb cFc rfl rfl rfl bL aS (aA gT mxd ⟨[],aDm _ h hB ha hbn,rfl,rfl,rfl,λ_ _=>⟨λh2=>absurd trivial h2,λ_=>aA gT mxd ⟨[],bMu (a:Nat),rfl,rfl,rfl,λ_ _=>⟨[2],bMv rs (a:Nat) oM (λk hk=>by have:=hA.r k hk;omega),rfl,rfl,rfl,λ_ _=>⟨[],bMu (b:Nat),rfl,rfl,rfl,λ_ _=>⟨[3],bMv cs (b:Nat) oM (λk hk=>by have:=hA.c k hk;omega),rfl,rfl,rfl,λ_ _=>⟨[],bMw (rs.l.length:Nat) oM,rfl,rfl,rfl,λ_ _=>⟨[],bMw (cs.l.length:Nat) oM,rfl,rfl,rfl,λ_ _ mb=>?_⟩⟩⟩⟩⟩⟩⟩⟩)
 refine cO (λ_=>true) (λg:Nat×(Nat->List CV)×(Nat->Sl Int)=>bVu rs cs mb g.1) (λ_=>bKg ⟨a,b,md⟩) (λg=>[mpF mb g.2.1]) (λg=>g.1<=cs.l.length/\g.2.1 0=kvL κ (λi=>cM (g.2.2 i)) g.1/\∀i,i<g.1->(g.2.2 i).l=[(i:Int)]) (λg=>cs.l.length-g.1) λhM=>⟨bS hM (chg:=λg:Nat×(Nat->List CV)×(Nat->Sl Int)=>bVu rs cs mb g.1) (bls:=λ_=>bKg ⟨a,b,md⟩) (fls:=λg=>[mpF mb g.2.1]) (0,λ_=>[],λ_=>cP) ⟨aC _,rfl,λi hi=>absurd hi (aD _)⟩ rfl ⟨rfl,rfl⟩ ⟨rfl,trivial⟩ ⟨rfl,rfl,rfl,rfl,rfl,rfl,rfl,rfl⟩ bL aSx rfl,λ⟨k,G,pl⟩ ⟨hk,hG,hpl⟩=>Sd.sq (aA gT mxd (Sd.sq (aA gT mxd ⟨λh2=>aA gT mxd ?_,λh2=>aA gT mxd ?_⟩)))⟩
 all_goals
  replace hk:k<=cs.l.length:=hk
  replace hG:G 0=kvL κ (λi=>cM (pl i)) k:=hG
  replace hpl:∀i,i<k->(pl i).l=[(i:Int)]:=hpl
 ·replace h2:(k:Int)<(cs.l.length:Nat):=h2
  have hkn:k<cs.l.length:=by omega
  refine Sd.sq (Sd.blk (Sd.sq (aA gT mxd ⟨k,⟨rfl,hkn⟩,?_⟩)))
  refine Sd.rg gT (l:=[_,_,_,_,_,_,_,_,_]) [_,_,_,_,_,_,_,_] [_] rfl rfl ?_
  have hno:∀(i:Nat) (c':CV),((mpF mb G).get 0)[2*i]? =some (.v (.int .i64 (κ k:Nat)))->((mpF mb G).get 0)[2*i+1]? =some c'->False:=λi c' h4 h5=>by
   rw[show(mpF mb G).get 0=kvL κ (λi=>cM (pl i)) k from hG] at h4 h5
   obtain⟨h6,h7,_⟩:=aAi h4 h5
   have:=hA.m i k h6 hkn
   omega
  refine⟨0,0,⟨Nat.one_pos,rfl⟩,λi c' h4 h5=>absurd (hno i c' (by rw[<-(hA.c k hkn).1];exact h4) h5) (λhh=>hh),λ_=>⟨⟨rfl,by simp only[maxLen];omega,by show 1*8<=_;omega⟩,?_⟩⟩
  show Sdl _ _ _ _ _ _ _
  refine aUn bPd 65 3 (λj=>[iC (([(k:Int)]:List Int).getD j 0)]) rfl rfl (λj hj=>?_) rfl bL (λc hc=>by rw[aI.1 hc];rfl) bL λA c _ _=>⟨cm (bTt rfl),?_⟩
  ·obtain rfl:j=0:=by omega
   rfl
  refine Sdl.go (l:=[_,_,_,_,_,_,_,_,_]) gT ?_
  refine⟨0,0,κ k,⟨Nat.one_pos,rfl,(hA.c k hkn).1,hno⟩,aA gT mxd ⟨(k+1:Nat),wi,bS hM (chg:=λg:Nat×(Nat->List CV)×(Nat->Sl Int)=>bVu rs cs mb g.1) (bls:=λ_=>bKg ⟨a,b,md⟩) (fls:=λg=>[mpF mb g.2.1]) (k+1,upd G 0 (G 0++[iC (κ k:Nat),cM ⟨A,c,[(k:Int)]⟩]),upd pl k ⟨A,c,[(k:Int)]⟩) ⟨⟨hkn,?_,λi hi=>?_⟩,show cs.l.length-(k+1)<cs.l.length-k by omega⟩ rfl ⟨rfl,rfl⟩ ⟨rfl,trivial⟩ ⟨rfl,rfl,rfl,rfl,rfl,rfl,rfl,rfl⟩ bL aSx rfl⟩⟩
  ·refine(bN:upd G 0 _ 0=_).trans ?_
   have e1:kvL κ (λi=>cM (pl i)) k=kvL κ (λi=>cM (upd pl k ⟨A,c,[(k:Int)]⟩ i)) k:=aAl λi hi=>⟨rfl,by rw[bD oM]⟩
   have e2:upd pl k ⟨A,c,[(k:Int)]⟩ k=⟨A,c,[(k:Int)]⟩:=bN
   show G 0++_=kvL κ (λi=>cM (upd pl k ⟨A,c,[(k:Int)]⟩ i)) k++[iC (κ k:Nat),cM (upd pl k ⟨A,c,[(k:Int)]⟩ k)]
   rw[e2,<-e1,hG]
  show(upd pl k _ i).l=_
  by_cases e:i=k
  ·subst e;rw[bN]
  rw[bD e];exact hpl i (by have:i<k+1:=hi;omega)
 replace h2:¬(k:Int)<(cs.l.length:Nat):=h2
 obtain rfl:k=cs.l.length:=by omega
 obtain⟨n,hn⟩:∃n,n=cs.l.length:=⟨_,rfl⟩
 obtain⟨u,hu⟩:∃u,u=rs.l.length:=⟨_,rfl⟩
 refine aA gT mxd ⟨[],bLx rs.l.length cs.l.length hrl,rfl,rfl,rfl,λ_ _=>?_⟩
 show Sd _ _ _ _ _ _
 refine gK tSd 3 (eJ rs.l.length λ_=>cF cP) rfl (by rw[eC,dE]) (sX λ_ _=>pH) ?_
 refine cO (λ_=>true) (λg:Nat×(Nat->Sl EntM)=>bKh rs mb g.1) (λg=>bEd ⟨a,b,md⟩ rs.l.length cs.l.length g.2) (λ_=>[mpF mb G]) (λg=>g.1<=rs.l.length/\∀j,j<g.1->Ek (g.2 j).l (iV κ cs.l.length (M (ρ j)))) (λg=>rs.l.length-g.1) λhM=>⟨bS hM (chg:=λg:Nat×(Nat->Sl EntM)=>bKh rs mb g.1) (bls:=λg=>bEd ⟨a,b,md⟩ rs.l.length cs.l.length g.2) (fls:=λ_=>[mpF mb G]) (0,λ_=>cP) ⟨aC _,λj hj=>absurd hj (aD _)⟩ rfl ⟨rfl,rfl,rfl,rfl,rfl⟩ ⟨rfl,trivial⟩ ⟨rfl,rfl,rfl,rfl,rfl,rfl,rfl⟩ bL aSy rfl,λ⟨k,Y⟩ ⟨hk,hY⟩=>aA gT mxd ⟨λh3=>aA gT mxd ?_,λh3=>aA gT mxd ?_⟩⟩
 all_goals
  replace hk:k<=rs.l.length:=hk
  replace hY:∀j,j<k->Ek (Y j).l (iV κ cs.l.length (M (ρ j))):=hY
 ·replace h3:(k:Int)<(rs.l.length:Nat):=h3
  have hkn:k<rs.l.length:=by omega
  obtain⟨r1,r2⟩:=hA.r k hkn
  have hrow:=h.row _ r2
  have hok:=h.ok _ r2
  have hbr:=hb _ r2
  have hle:(md.l.getD (ρ k) cP).l.length=(M (ρ k)).length:=hrow.ln
  have hdl:md.l.length=a:=h.ln
  refine⟨k,⟨rfl,hkn⟩,ρ k,⟨r1,by show ρ k<md.l.length;omega⟩,?_⟩
  show Sd _ _ _ _ _ _
  refine bOv 15 82 4 rfl bL ?_
  refine cO (λ_=>true) (λg:Nat×List EntM=>aPv (md.l.getD (ρ k) cP) rs mb k g.1 g.2.length) (λg=>aMa ⟨a,b,md⟩ rs.l.length cs.l.length Y g.2) (λ_=>[mpF mb G]) (λg=>g.1<=(M (ρ k)).length/\Ek g.2 (iV κ cs.l.length ((M (ρ k)).take g.1))) (λg=>(M (ρ k)).length-g.1) λhM2=>⟨bS hM2 (chg:=λg:Nat×List EntM=>aPv (md.l.getD (ρ k) cP) rs mb k g.1 g.2.length) (bls:=λg=>aMa ⟨a,b,md⟩ rs.l.length cs.l.length Y g.2) (fls:=λ_=>[mpF mb G]) (0,[]) ⟨aC _,⟨rfl,λk hk=>absurd hk (aD _)⟩⟩ rfl ⟨rfl,rfl,rfl,rfl,rfl,rfl⟩ ⟨rfl,trivial⟩ ⟨rfl,rfl,rfl,rfl,rfl,rfl,rfl,rfl,rfl,rfl,rfl,rfl⟩ bL aBx rfl,λ⟨t,L⟩ ⟨ht,hL⟩=>Sd.sq (aA gT mxd (Sd.sq (aA gT mxd ⟨λh4=>aA gT mxd ?_,λh4=>aA gT mxd ?_⟩)))⟩
  all_goals
   replace ht:t<=(M (ρ k)).length:=ht
   replace hL:Ek L (iV κ cs.l.length ((M (ρ k)).take t)):=hL
  ·replace h4:(t:Int)<((md.l.getD (ρ k) cP).l.length:Nat):=h4
   have htl:t<(M (ρ k)).length:=by omega
   have hte:t<(md.l.getD (ρ k) cP).l.length:=by omega
   have he:=hrow.e t htl
   have hcl2:(iV κ cs.l.length ((M (ρ k)).take t)).length<=t:=aG (tF _ _) (by rw[bA];omega)
   have hLl:=hL.ln
   have hMl:=hok.2
   refine Sd.cut (σ:=List EntM) (λL'=>⟨aPv (md.l.getD (ρ k) cP) rs mb k t L'.length++[],[],aMa ⟨a,b,md⟩ rs.l.length cs.l.length Y L',[mpF mb G]⟩) (λL'=>Ek L' (iV κ cs.l.length ((M (ρ k)).take (t+1)))) ?_ λL' hL'=>?_
   ·refine aA gT mxd ?_
    refine⟨t,⟨rfl,hte⟩,0,0,⟨Nat.one_pos,rfl⟩,λi c' h5 h6=>?_,λh5=>?_⟩
    ·rw[show(mpF mb G).get 0=kvL κ (λi=>cM (pl i)) cs.l.length from hG] at h5 h6
     obtain⟨hi,hz,hc'⟩:=aAi h5 h6
     subst hc'
     have hpi:=hpl i hi
     have hpn:(pl i).l.length=1:=by rw[hpi];rfl
     have hcf:=aFm hA.m htl hi (he.1.symm.trans hz)
     show Sd _ _ _ _ _ _
     refine cO (λ_=>true) (λg:Nat×List EntM=>bEe (md.l.getD (ρ k) cP) rs mb k t g.2.length (cM (pl i)) (pl i).l.length g.1) (λg=>aVb ⟨a,b,md⟩ rs.l.length cs.l.length Y g.2 ((md.l.getD (ρ k) cP).l.getD t default)) (λ_=>[mpF mb G]) (λg=>g.1<=1/\(g.1=0->g.2=L)/\(g.1=1->Ek g.2 (iV κ cs.l.length ((M (ρ k)).take (t+1))))) (λg=>1-g.1) λhM3=>⟨bS hM3 (chg:=λg:Nat×List EntM=>bEe (md.l.getD (ρ k) cP) rs mb k t g.2.length (cM (pl i)) (pl i).l.length g.1) (bls:=λg=>aVb ⟨a,b,md⟩ rs.l.length cs.l.length Y g.2 ((md.l.getD (ρ k) cP).l.getD t default)) (fls:=λ_=>[mpF mb G]) (0,L) ⟨aC _,λ_=>rfl,λh=>by cases h⟩ rfl ⟨rfl,rfl,rfl,rfl,rfl,rfl,rfl⟩ ⟨rfl,trivial⟩ ⟨rfl,rfl,rfl,rfl,rfl,rfl,rfl,rfl,rfl,rfl,rfl,rfl,rfl,rfl,rfl,rfl⟩ bL aJd rfl,λ⟨z,L'⟩ ⟨hz1,hz2,hz3⟩=>aA gT mxd ⟨λh7=>aA gT mxd ?_,λh7=>aA gT mxd ?_⟩⟩
     all_goals
      replace hz1:z<=1:=hz1
      replace hz2:z=0->L'=L:=hz2
      replace hz3:z=1->Ek L' (iV κ cs.l.length ((M (ρ k)).take (t+1))):=hz3
     ·replace h7:(z:Int)<((pl i).l.length:Nat):=h7
      have hz0:z=0:=by omega
      have hLL:L'=L:=hz2 hz0
      have hL1:Ek L' (iV κ cs.l.length ((M (ρ k)).take t)):=by rw[hLL];exact hL
      have hLl1:=hL1.ln
      have hix:(pl i).l.getD z 0=(i:Nat):=by rw[hpi,hz0];rfl
      refine⟨z,⟨rfl,by omega⟩,[],nJ ((md.l.getD (ρ k) cP).l.getD t default).v (he.2.le hB),rfl,rfl,rfl,λg hg=>⟨⟨rfl,(gZ _).symm,by show L'.length+1<=maxLen;simp only[maxLen];omega,by show(L'.length+1)*64<=_;omega,λc hc=>(aV.1 hc).elim (λh=>fC (hJ L' c h)) (pI ⟨(pl i).l.getD z 0,g⟩ c)⟩,(λc hc=>fC (aZ (λ_ _=>rfl) c hc)),pI ⟨(pl i).l.getD z 0,g⟩,(z+1:Nat),wi,bS hM3 (chg:=λg:Nat×List EntM=>bEe (md.l.getD (ρ k) cP) rs mb k t g.2.length (cM (pl i)) (pl i).l.length g.1) (bls:=λg=>aVb ⟨a,b,md⟩ rs.l.length cs.l.length Y g.2 ((md.l.getD (ρ k) cP).l.getD t default)) (fls:=λ_=>[mpF mb G]) (z+1,L'++[⟨(pl i).l.getD z 0,g⟩]) ⟨⟨by show z+1<=1;omega,λh=>absurd h (Nat.succ_ne_zero z),λ_=>?_⟩,show 1-(z+1)<1-z by omega⟩ rfl ⟨rfl,rfl,rfl,rfl,rfl,?_,rfl⟩ ⟨rfl,trivial⟩ ⟨rfl,rfl,rfl,rfl,rfl,rfl,rfl,?_,rfl,rfl,rfl,rfl,rfl,rfl,rfl,rfl⟩ bL aJd rfl⟩⟩
      ·show Ek (L'++[⟨(pl i).l.getD z 0,g⟩]) _
       rw[hcf,hix];exact zB hL1 hg
      ·show(_,_,_)=(_,_,_)
       rw[<-tP];rfl
      show L'.length+1=(L'++[_]).length
      rw[aH];rfl
     replace h7:¬(z:Int)<((pl i).l.length:Nat):=h7
     exact(bS hM2 (chg:=λL':List EntM=>aPv (md.l.getD (ρ k) cP) rs mb k t L'.length) (bls:=λL'=>aMa ⟨a,b,md⟩ rs.l.length cs.l.length Y L') (fls:=λ_=>[mpF mb G]) L' (hz3 oM) rfl ⟨rfl,rfl,rfl,rfl,rfl,rfl⟩ ⟨rfl,trivial⟩ ⟨rfl,rfl,rfl,rfl,rfl,rfl,rfl,rfl,rfl,rfl,rfl,rfl⟩ bL aBx rfl)
    have hno:∀j,j<cs.l.length->((κ j:Nat):Int)≠((M (ρ k)).getD t default).1:=λj hj e=>by
     rw[show(mpF mb G).get 0=kvL κ (λi=>cM (pl i)) cs.l.length from hG] at h5
     have h6:=aDx (x:=κ) (V:=λi=>cM (pl i)) hj
     exact h5 j _ (h6.1.trans (congrArg (λz=>some (iC z)) (e.trans he.1.symm))) h6.2
    show Sd _ _ _ _ _ _
    refine cO (λ_=>true) (λ_:Unit=>bEe (md.l.getD (ρ k) cP) rs mb k t L.length (.v (.slice none 0 0)) 0 0) (λ_=>aVb ⟨a,b,md⟩ rs.l.length cs.l.length Y L ((md.l.getD (ρ k) cP).l.getD t default)) (λ_=>[mpF mb G]) (λ_=>True) (λ_=>0) λhM3=>⟨bS hM3 (chg:=λ_:Unit=>bEe (md.l.getD (ρ k) cP) rs mb k t L.length (.v (.slice none 0 0)) 0 0) (bls:=λ_=>aVb ⟨a,b,md⟩ rs.l.length cs.l.length Y L ((md.l.getD (ρ k) cP).l.getD t default)) (fls:=λ_=>[mpF mb G]) () trivial rfl ⟨rfl,rfl,rfl,rfl,rfl,rfl,rfl⟩ ⟨rfl,trivial⟩ ⟨rfl,rfl,rfl,rfl,rfl,rfl,rfl,rfl,rfl,rfl,rfl,rfl,rfl,rfl,rfl,rfl⟩ bL aJd rfl,λ_ _=>aA gT mxd ⟨λh7=>absurd h7 (show ¬((0:Nat):Int)<((0:Nat):Int) by omega),λh7=>aA gT mxd ?_⟩⟩
    refine(bS hM2 (chg:=λL':List EntM=>aPv (md.l.getD (ρ k) cP) rs mb k t L'.length) (bls:=λL'=>aMa ⟨a,b,md⟩ rs.l.length cs.l.length Y L') (fls:=λ_=>[mpF mb G]) L ?_ rfl ⟨rfl,rfl,rfl,rfl,rfl,rfl⟩ ⟨rfl,trivial⟩ ⟨rfl,rfl,rfl,rfl,rfl,rfl,rfl,rfl,rfl,rfl,rfl,rfl⟩ bL aBx rfl)
    show Ek L (iV κ cs.l.length ((M (ρ k)).take (t+1)))
    rw[aFl htl hno];exact hL
   exact aA gT mxd ⟨(t+1:Nat),wi,bS hM2 (chg:=λg:Nat×List EntM=>aPv (md.l.getD (ρ k) cP) rs mb k g.1 g.2.length) (bls:=λg=>aMa ⟨a,b,md⟩ rs.l.length cs.l.length Y g.2) (fls:=λ_=>[mpF mb G]) (t+1,L') ⟨⟨htl,hL'⟩,show(M (ρ k)).length-(t+1)<(M (ρ k)).length-t by omega⟩ rfl ⟨rfl,rfl,rfl,rfl,rfl,rfl⟩ ⟨rfl,trivial⟩ ⟨rfl,rfl,rfl,rfl,rfl,rfl,rfl,rfl,rfl,rfl,rfl,rfl⟩ bL aBx rfl⟩
  replace h4:¬(t:Int)<((md.l.getD (ρ k) cP).l.length:Nat):=h4
  obtain rfl:t=(M (ρ k)).length:=by omega
  rw[cZ] at hL
  have hvk:=xG hA.m hok.1
  have hvl:=jY hvk
  have hLl:=hL.ln
  have hm:=h.r
  show Sd _ _ _ _ _ _
  refine Sd.sq (aA gT mxd ⟨none,[5],bMe cEz L rfl oM,rfl,rfl,rfl,λzs hz=>yR 15 5 (λj=>(zs.getD j default).C) rfl rfl (λj hj=>?_) ?_ bL (hJ zs) bL λA c _ _=>⟨λc hc=>fC (aZ (λ_ _=>rfl) c hc),aA gT mxd ⟨k,⟨rfl,hkn,dD hkn⟩,_,iF (c:=.r A L.length c 4 λj=>(zs.getD j default).C) (Q:=λj=>cF (upd Y k ⟨A,c,zs⟩ j)) hkn (λj _=>?_),(k+1:Nat),wi,bS hM (chg:=λg:Nat×(Nat->Sl EntM)=>bKh rs mb g.1) (bls:=λg=>bEd ⟨a,b,md⟩ rs.l.length cs.l.length g.2) (fls:=λ_=>[mpF mb G]) (k+1,upd Y k ⟨A,c,zs⟩) ⟨⟨hkn,λj hj=>?_⟩,show rs.l.length-(k+1)<rs.l.length-k by omega⟩ rfl ⟨rfl,rfl,rfl,rfl,rfl⟩ ⟨rfl,trivial⟩ ⟨rfl,rfl,rfl,rfl,rfl,rfl,rfl⟩ bL aSy rfl⟩⟩⟩)
  all_goals
   obtain⟨hz1,hz2⟩:=hz
   have hzl:zs.length=L.length:=hz1.length_eq
  ·exact uK zs j (by rw[hzl];exact hj)
  ·rw[gZ,hzl]
  ·by_cases e:j=k
   ·subst e;rw[if_pos rfl,bN]
    show _=CV.r A zs.length c 4 λj=>(zs.getD j default).C
    rw[hzl]
   rw[if_neg e,bD e]
  show Ek (upd Y k ⟨A,c,zs⟩ j).l _
  by_cases e:j=k
  ·subst e;rw[bN];exact bKi hz1 hz2 hL hvk
  rw[bD e];exact hY j (by have:j<k+1:=hj;omega)
 replace h3:¬(k:Int)<(rs.l.length:Nat):=h3
 obtain rfl:k=rs.l.length:=by omega
 show Sd _ _ _ _ _ _
 refine mU tSd 3 rfl bL (aZ λ_ _=>rfl) bL rfl λA2 c2=>?_
 refine lI tSd 4 1 [iC rs.l.length,iC cs.l.length,mV ⟨A2.map λb=>⟨b,0,none⟩,c2,lJ Y rs.l.length⟩] rfl rfl rfl rfl (wB (k0:=2) rfl xF) (aA gT mxd ⟨⟨rs.l.length,cs.l.length,⟨A2.map λb=>⟨b,0,none⟩,c2,lJ Y rs.l.length⟩⟩,⟨rfl,rfl,nU,λj hj=>?_,λj hj=>?_⟩,aM ⟨rfl,rfl⟩ rfl trivial⟩)
 ·show Ek ((lJ Y rs.l.length).getD j cP).l _
  rw[qY hj];exact hY j hj
 have hvk:=xG (n:=cs.l.length) hA.m (h.ok _ (hA.r j hj).2).1
 exact⟨hvk,jY hvk⟩
structure CorM where
 c:Sl Int
 r:Sl Int
 f:LuM
def CorM.C (x:CorM):List CV:=[cM x.c,cM x.r,cM x.f.R,cM x.f.K,iC x.f.L.r,iC x.f.L.c,mV x.f.L.d,iC x.f.U.r,iC x.f.U.c,mV x.f.U.d]
abbrev bVw:List CV:=[.v (.slice none 0 0),.v (.slice none 0 0),.v (.slice none 0 0),.v (.slice none 0 0),iC 0,iC 0,.v (.slice none 0 0),iC 0,iC 0,.v (.slice none 0 0)]
noncomputable abbrev bcL (b:BasM) (n:Nat):List Int:=nE (λj=>b.c.l.getD j 0=2) n
noncomputable abbrev brL (b:BasM) (n:Nat):List Int:=nE (λi=>b.r.l.getD i 0≠2) n
def atN (l:List Int) (k:Nat):Nat:=(l.getD k 0).toNat
structure BasOk (p:ProgM) (b:BasM):Prop where
 c:b.c.l.length=p.c.l.length
 r:b.r.l.length=p.r.l.length
 pc:∀j,j<p.c.l.length->Pmt (p.c.l.getD j default) (b.c.l.getD j 0)
 pr:∀i,i<p.r.l.length->b.r.l.getD i 0=2\/b.r.l.getD i 0=dfR (p.r.l.getD i default).s
noncomputable def zJ (p:ProgM) (q:PrQ) (b:BasM) (k:Nat):List En:=iV (atN (bcL b p.c.l.length)) (bcL b p.c.l.length).length (q.M (atN (brL b p.r.l.length) k))
structure BVal (p:ProgM) (q:PrQ) (b:BasM):Prop where
 ok:BasOk p b
 n:(bcL b p.c.l.length).length=(brL b p.r.l.length).length
 k:¬Ker (zJ p q b) (brL b p.r.l.length).length
section sel
variable {P:Nat->Prop}
theorem oF:∀{n:Nat} {z:Int},z∈nE P n↔∃k:Nat,z=(k:Nat)/\k<n/\P k
 |0,z=>⟨λh=>(by cases h),λ⟨k,_,h,_⟩=>absurd h (aD k)⟩
 |n+1,z=>by
  by_cases hp:P n
  ·rw[kH hp,aV,oF,aI]
   constructor
   ·rintro(⟨k,h1,h2,h3⟩|h)
    ·exact⟨k,h1,by omega,h3⟩
    exact⟨n,h,by omega,hp⟩
   rintro⟨k,h1,h2,h3⟩
   rcases cX (dJ h2) with h4|h4
   ·exact .inl ⟨k,h1,h4,h3⟩
   exact .inr (by rw[h1,h4])
  rw[oE hp,oF]
  constructor
  ·rintro⟨k,h1,h2,h3⟩;exact⟨k,h1,by omega,h3⟩
  rintro⟨k,h1,h2,h3⟩
  rcases cX (dJ h2) with h4|h4
  ·exact⟨k,h1,h4,h3⟩
  rw[h4] at h3;exact absurd h3 hp
theorem aEb:∀n,(nE P n).Pairwise (·<·)
 |0=>List.Pairwise.nil
 |n+1=>by
  by_cases hp:P n
  ·rw[kH hp]
   refine eM.2 ⟨aEb n,eW _ _,λz hz y hy=>?_⟩
   obtain⟨k,h1,h2,_⟩:=oF.1 hz
   rw[aI.1 hy,h1];omega
  rw[oE hp];exact aEb n
theorem fS (n:Nat):Enm P n (nE P n).length (atN (nE P n))/\∀k,k<(nE P n).length->(nE P n).getD k 0=(atN (nE P n) k:Nat):=by
 have h0:∀k,k<(nE P n).length->∃m:Nat,(nE P n).getD k 0=(m:Nat)/\m<n/\P m:=λk hk=>by
  have hm:(nE P n).getD k 0∈nE P n:=by rw[aO,aE hk];exact kO hk
  exact oF.1 hm
 have h1:∀k,k<(nE P n).length->(nE P n).getD k 0=(atN (nE P n) k:Nat):=λk hk=>by
  obtain⟨m,h2,_⟩:=h0 k hk
  unfold atN;rw[h2];rfl
 refine⟨⟨λk hk=>?_,λk l hkl hl=>?_,λk hk=>?_,λj hj hp=>?_⟩,h1⟩
 ·obtain⟨m,h2,h3,_⟩:=h0 k hk
  have:=h1 k hk
  omega
 ·have h2:=gV.1 (aEb (P:=P) n) k l oM hl hkl
  have h3:=h1 k oM
  have h4:=h1 l hl
  rw[aO,aE oM] at h3
  rw[aO,aE hl] at h4
  simp only[Option.getD_some] at h3 h4
  omega
 ·obtain⟨m,h2,_,h3⟩:=h0 k hk
  have:=h1 k hk
  rw[show atN (nE P n) k=m by omega];exact h3
 obtain⟨k,hk,h2⟩:=List.getElem_of_mem (oF.2 ⟨j,rfl,hj,hp⟩)
 refine⟨k,hk,?_⟩
 have:=h1 k hk
 rw[aO,aE hk] at this
 simp only[Option.getD_some] at this
 omega
end sel
theorem bKj (p:ProgM) (b:BasM) (C R:Sl Int) (hC:C.l=bcL b p.c.l.length) (hR:R.l=brL b p.r.l.length) (hc:p.c.l.length<=4096) (hr:p.r.l.length<=4096):CofA p R C (atN (brL b p.r.l.length)) (atN (bcL b p.c.l.length)):=by
 obtain⟨e1,e2⟩:=fS (P:=λj=>b.c.l.getD j 0=2) p.c.l.length
 obtain⟨f1,f2⟩:=fS (P:=λi=>b.r.l.getD i 0≠2) p.r.l.length
 have l1:=jQ (P:=λj=>b.c.l.getD j 0=2) (k:=p.c.l.length)
 have l2:=jQ (P:=λi=>b.r.l.getD i 0≠2) (k:=p.r.l.length)
 exact⟨λk hk=>by rw[hR] at hk ⊢;exact⟨f2 k hk,f1.lt k hk⟩,λk hk=>by rw[hC] at hk ⊢;exact⟨e2 k hk,e1.lt k hk⟩,λk l hkl hl=>by rw[hC] at hl;exact e1.mono k l hkl hl,by rw[hR];exact aG l2 hr,by rw[hC];exact aG l1 hc⟩
abbrev ncB (p:ProgM) (b:BasM) (L R:List Int):BL:=[(42,0,p.C),(45,0,b.C),(113,0,bVw),(113,0,[.s 4 L.length,.s 5 R.length,.v (.slice none 0 0),.v (.slice none 0 0),iC 0,iC 0,.v (.slice none 0 0),iC 0,iC 0,.v (.slice none 0 0)]),(3,1,L.map iC),(3,1,R.map iC)]
theorem aAm {p:ProgM} {b:BasM} {L R:List Int}:scB 6 (ncB p b L R):=aB rfl (aB rfl (aB rfl (aB rfl (aB (bT (cJ _)) (aB (bT (cJ _)) aY)))))
abbrev bKk (b:BasM) (k:Nat):List (Nat×DV):=[(33,.c (iC k)),(2,.c (.p 0 0)),(3,.c (.p 1 0)),(4,.c (.p 2 0)),(6,.c (.p 3 0)),(31,.c (cM b.c)),(32,.c (iC (b.c.l.length:Nat)))]
abbrev bKl (b:BasM) (k:Nat):List (Nat×DV):=[(59,.c (iC k)),(2,.c (.p 0 0)),(3,.c (.p 1 0)),(4,.c (.p 2 0)),(6,.c (.p 3 0)),(57,.c (cM b.r)),(58,.c (iC (b.r.l.length:Nat)))]
abbrev bVx:=Option (CorM×(Nat->Nat)×(Nat->Nat)×(Nat->List En)×(Nat->List En))
structure CorI (p:ProgM) (q:PrQ) (b:BasM) (F:Nat) (x:CorM) (rw cl:Nat->Nat) (Lw Up:Nat->List En):Prop where
 v:BVal p q b
 c:x.c.l=bcL b p.c.l.length
 r:x.r.l=brL b p.r.l.length
 f:LuG x.f (zJ p q b) (brL b p.r.l.length).length rw cl Lw Up F
abbrev bVy:FuncId:=64
theorem cKx:Ent Tryz.prog bVy:=aW func64 rfl kR
theorem cKy:Tryz.prog.funcs[bVy]? =some Tryz.f64:=func64
theorem bMx (p:ProgM) (b:BasM) {q:PrQ} {B:Nat} (h:PrV p q B) (hr:p.r.l.length<=12) (hB:bd B (p.r.l.length-1)<=4398046511104):Ctr Tryz.prog bVy [] [.a p.C,.a b.C] [] (λg:bVx=>match g with
 |none=>⟨.t [.a bVw,.c (.v (.bool false))],[],¬BVal p q b⟩
 |some (x,rw,cl,Lw,Up)=>⟨.t [.a x.C,.c (.v (.bool true))],[],CorI p q b (bd B (brL b p.r.l.length).length) x rw cl Lw Up⟩):=by
 have hpc:=h.c
 have no:¬BVal p q b->∃g:bVx,(match g with|none=>(¬BVal p q b)|some _=>False):=λhh=>⟨none,hh⟩
 refine aX gT cKx cKy rfl rfl rfl bL aS (Sd.sq (aA gT mxd (Sd.sq (aA gT mxd (xW 3 0 3 1 rfl rfl bL rfl (xW 3 1 3 1 rfl rfl bL rfl (aA gT mxd ⟨λh2=>aA gT mxd ?_,λh2=>aA gT mxd ?_⟩)))))))
 ·replace h2:((b.c.l.length:Nat):Int)≠(p.c.l.length:Nat)\/((b.r.l.length:Nat):Int)≠(p.r.l.length:Nat):=h2
  exact⟨none,λhh=>by have:=hh.ok.c;have:=hh.ok.r;omega,aM ⟨rfl,rfl⟩ rfl trivial⟩
 replace h2:¬(((b.c.l.length:Nat):Int)≠(p.c.l.length:Nat)\/((b.r.l.length:Nat):Int)≠(p.r.l.length:Nat)):=h2
 have hbc:b.c.l.length=p.c.l.length:=by omega
 have hbr:b.r.l.length=p.r.l.length:=by omega
 show Sd _ _ _ _ _ _
 refine cO (λ_=>true) (λk:Nat=>bKk b k) (λk=>ncB p b (bcL b k) []) (λ_=>[]) (λk=>k<=p.c.l.length/\∀j,j<k->Pmt (p.c.l.getD j default) (b.c.l.getD j 0)) (λk=>p.c.l.length-k) λhM=>⟨bS hM (chg:=λk:Nat=>bKk b k) (bls:=λk=>ncB p b (bcL b k) []) (fls:=λ_=>[]) 0 ⟨aC _,λj hj=>absurd hj (aD _)⟩ rfl ⟨rfl,rfl,rfl,rfl,rfl,rfl⟩ trivial ⟨rfl,rfl,rfl,rfl,rfl,rfl,rfl⟩ bL aAm rfl,λk ⟨hk,hp⟩=>aA gT mxd ⟨λh3=>aA gT mxd ?_,λh3=>aA gT mxd ?_⟩⟩
 ·replace h3:(k:Int)<(b.c.l.length:Nat):=h3
  have hkn:k<p.c.l.length:=by omega
  have hkb:k<b.c.l.length:=by omega
  have hll:(bcL b k).length<=k:=jQ
  refine⟨k,⟨rfl,hkb⟩,k,⟨rfl,hkn⟩,[],bMj (p.c.l.getD k default) (b.c.l.getD k 0),rfl,rfl,rfl,λ_ _=>⟨λh4=>aA gT mxd ?_,λh4=>aA gT mxd ⟨λh5=>aA gT mxd ?_,λh5=>aA gT mxd ?_⟩⟩⟩
  ·replace h4:¬Pmt (p.c.l.getD k default) (b.c.l.getD k 0):=h4
   exact⟨none,λhh=>h4 (hh.ok.pc k hkn),aM ⟨rfl,rfl⟩ rfl trivial⟩
  all_goals
   replace h4:Pmt (p.c.l.getD k default) (b.c.l.getD k 0):=dZ.1 h4
   have hp':∀j,j<k+1->Pmt (p.c.l.getD j default) (b.c.l.getD j 0):=λj hj=>(cX (dJ hj)).elim (hp j) λe=>e▸h4
  ·replace h5:b.c.l.getD k 0=2:=h5
   have hy:bcL b (k+1)=bcL b k++[(k:Int)]:=kH h5
   refine⟨apI (x:=bcL b k) (by show(bcL b k).length<=_;omega),(λc hc=>by cases hc),(λc hc=>by rw[aI.1 hc];rfl),(k+1:Nat),wi,bS hM (chg:=λk:Nat=>bKk b k) (bls:=λk=>ncB p b (bcL b k) []) (fls:=λ_=>[]) (k+1) ⟨⟨hkn,hp'⟩,show p.c.l.length-(k+1)<p.c.l.length-k by omega⟩ rfl ⟨rfl,rfl,rfl,?_,?_,rfl⟩ trivial ⟨rfl,rfl,rfl,rfl,rfl,rfl,rfl⟩ bL aAm rfl⟩
   ·show(_,_,CV.s 4 ((bcL b k).length+1)::_)=(_,_,CV.s 4 (bcL b (k+1)).length::_)
    rw[show(bcL b (k+1)).length=(bcL b k).length+1 by rw[hy];simp];rfl
   show(_,_,(bcL b k).map iC++[iC (k:Nat)])=(_,_,(bcL b (k+1)).map iC)
   rw[hy,cH];rfl
  replace h5:¬b.c.l.getD k 0=2:=h5
  have hy:bcL b (k+1)=bcL b k:=oE h5
  refine⟨(k+1:Nat),wi,bS hM (chg:=λk:Nat=>bKk b k) (bls:=λk=>ncB p b (bcL b k) []) (fls:=λ_=>[]) (k+1) ⟨⟨hkn,hp'⟩,show p.c.l.length-(k+1)<p.c.l.length-k by omega⟩ rfl ⟨rfl,rfl,rfl,?_,?_,rfl⟩ trivial ⟨rfl,rfl,rfl,rfl,rfl,rfl,rfl⟩ bL aAm rfl⟩
  ·show(_,_,CV.s 4 (bcL b k).length::_)=(_,_,CV.s 4 (bcL b (k+1)).length::_)
   rw[show bcL b (k+1)=bcL b k from hy]
  show(_,_,(bcL b k).map iC)=(_,_,(bcL b (k+1)).map iC)
  rw[show bcL b (k+1)=bcL b k from hy]
 replace h3:¬(k:Int)<(b.c.l.length:Nat):=h3
 obtain rfl:k=p.c.l.length:=by omega
 refine aA gT mxd ?_
 show Sd _ _ _ _ _ _
 refine cO (λ_=>true) (λk:Nat=>bKl b k) (λk=>ncB p b (bcL b p.c.l.length) (brL b k)) (λ_=>[]) (λk=>k<=p.r.l.length/\∀i,i<k->b.r.l.getD i 0=2\/b.r.l.getD i 0=dfR (p.r.l.getD i default).s) (λk=>p.r.l.length-k) λhM=>⟨bS hM (chg:=λk:Nat=>bKl b k) (bls:=λk=>ncB p b (bcL b p.c.l.length) (brL b k)) (fls:=λ_=>[]) 0 ⟨aC _,λj hj=>absurd hj (aD _)⟩ rfl ⟨rfl,rfl,rfl,rfl,rfl,rfl⟩ trivial ⟨rfl,rfl,rfl,rfl,rfl,rfl,rfl⟩ bL aAm rfl,λk ⟨hk,hq⟩=>aA gT mxd ⟨λh3=>aA gT mxd ?_,λh3=>aA gT mxd ?_⟩⟩
 ·replace h3:(k:Int)<(b.r.l.length:Nat):=h3
  have hkn:k<p.r.l.length:=by omega
  have hkb:k<b.r.l.length:=by omega
  have hll:(brL b k).length<=k:=jQ
  refine⟨k,⟨rfl,hkb⟩,⟨λh4=>aA gT mxd ?_,λh4=>aA gT mxd ⟨k,⟨rfl,hkn⟩,[],bMk (p.r.l.getD k default),rfl,rfl,rfl,λ_ _=>⟨λh5=>aA gT mxd ?_,λh5=>aA gT mxd ?_⟩⟩⟩⟩
  ·replace h4:b.r.l.getD k 0=2:=h4
   have hy:brL b (k+1)=brL b k:=oE λhh=>hh h4
   have hq':∀i,i<k+1->b.r.l.getD i 0=2\/b.r.l.getD i 0=dfR (p.r.l.getD i default).s:=λj hj=>(cX (dJ hj)).elim (hq j) λe=>e▸.inl h4
   refine⟨(k+1:Nat),wi,bS hM (chg:=λk:Nat=>bKl b k) (bls:=λk=>ncB p b (bcL b p.c.l.length) (brL b k)) (fls:=λ_=>[]) (k+1) ⟨⟨hkn,hq'⟩,show p.r.l.length-(k+1)<p.r.l.length-k by omega⟩ rfl ⟨rfl,rfl,rfl,?_,rfl,?_⟩ trivial ⟨rfl,rfl,rfl,rfl,rfl,rfl,rfl⟩ bL aAm rfl⟩
   ·show(_,_,_::CV.s 5 (brL b k).length::_)=(_,_,_::CV.s 5 (brL b (k+1)).length::_)
    rw[show brL b (k+1)=brL b k from hy]
   show(_,_,(brL b k).map iC)=(_,_,(brL b (k+1)).map iC)
   rw[show brL b (k+1)=brL b k from hy]
  ·replace h4:¬b.r.l.getD k 0=2:=h4
   replace h5:b.r.l.getD k 0≠dfR (p.r.l.getD k default).s:=h5
   exact⟨none,λhh=>(hh.ok.pr k hkn).elim h4 h5,aM ⟨rfl,rfl⟩ rfl trivial⟩
  replace h4:¬b.r.l.getD k 0=2:=h4
  replace h5:¬b.r.l.getD k 0≠dfR (p.r.l.getD k default).s:=h5
  have hy:brL b (k+1)=brL b k++[(k:Int)]:=kH h4
  have hq':∀i,i<k+1->b.r.l.getD i 0=2\/b.r.l.getD i 0=dfR (p.r.l.getD i default).s:=λj hj=>(cX (dJ hj)).elim (hq j) λe=>e▸.inr (dZ.1 h5)
  refine⟨apI (x:=brL b k) (by show(brL b k).length<=_;omega),(λc hc=>fC (cJ _ c hc)),(λc hc=>by rw[aI.1 hc];rfl),(k+1:Nat),wi,bS hM (chg:=λk:Nat=>bKl b k) (bls:=λk=>ncB p b (bcL b p.c.l.length) (brL b k)) (fls:=λ_=>[]) (k+1) ⟨⟨hkn,hq'⟩,show p.r.l.length-(k+1)<p.r.l.length-k by omega⟩ rfl ⟨rfl,rfl,rfl,?_,rfl,?_⟩ trivial ⟨rfl,rfl,rfl,rfl,rfl,rfl,rfl⟩ bL aAm rfl⟩
  ·show(_,_,_::CV.s 5 ((brL b k).length+1)::_)=(_,_,_::CV.s 5 (brL b (k+1)).length::_)
   rw[show(brL b (k+1)).length=(brL b k).length+1 by rw[hy];simp];rfl
  show(_,_,(brL b k).map iC++[iC (k:Nat)])=(_,_,(brL b (k+1)).map iC)
  rw[hy,cH];rfl
 replace h3:¬(k:Int)<(b.r.l.length:Nat):=h3
 obtain rfl:k=p.r.l.length:=by omega
 have hok:BasOk p b:=⟨hbc,hbr,hp,hq⟩
 have hnl:(brL b p.r.l.length).length<=p.r.l.length:=jQ
 show Sd _ _ _ _ _ _
 refine mU tSd 5 rfl bL (cJ _) bL rfl λA a1=>⟨_,sG oC (cJ _),lI tSd 3 0 [.s 4 (bcL b p.c.l.length).length,cM ⟨A.map λb=>⟨b,0,none⟩,a1,brL b p.r.l.length⟩,.v (.slice none 0 0),.v (.slice none 0 0),iC 0,iC 0,.v (.slice none 0 0),iC 0,iC 0,.v (.slice none 0 0)] rfl rfl rfl rfl (sC (k0:=1) rfl aLt) ?_⟩
 refine mU tSd 4 rfl bL (cJ _) bL rfl λA2 a2=>⟨_,rfl,lI tSd 3 1 [cM ⟨A2.map λb=>⟨b,0,none⟩,a2,bcL b p.c.l.length⟩,cM ⟨A.map λb=>⟨b,0,none⟩,a1,brL b p.r.l.length⟩,.v (.slice none 0 0),.v (.slice none 0 0),iC 0,iC 0,.v (.slice none 0 0),iC 0,iC 0,.v (.slice none 0 0)] rfl rfl rfl rfl (sC (k0:=0) rfl aLt) ?_⟩
 obtain⟨C,hC⟩:∃C:Sl Int,C=⟨A2.map λb=>⟨b,0,none⟩,a2,bcL b p.c.l.length⟩:=⟨_,rfl⟩
 obtain⟨R,hR⟩:∃R:Sl Int,R=⟨A.map λb=>⟨b,0,none⟩,a1,brL b p.r.l.length⟩:=⟨_,rfl⟩
 rw[<-hC,<-hR]
 have hCl:C.l=bcL b p.c.l.length:=by rw[hC]
 have hRl:R.l=brL b p.r.l.length:=by rw[hR]
 refine aA gT mxd ⟨λh4=>aA gT mxd ?_,λh4=>aA gT mxd ⟨[],bMp p R C h (bKj p b C R hCl hRl hpc oM),rfl,rfl,rfl,λm hm=>?_⟩⟩
 ·replace h4:((C.l.length:Nat):Int)≠(R.l.length:Nat):=h4
  rw[hCl,hRl] at h4
  exact⟨none,λhh=>by have:=hh.n;omega,aM ⟨rfl,rfl⟩ rfl trivial⟩
 replace h4:¬((C.l.length:Nat):Int)≠(R.l.length:Nat):=h4
 replace hm:Mr m (λk=>iV (atN (bcL b p.c.l.length)) C.l.length (q.M (atN (brL b p.r.l.length) k))) R.l.length C.l.length B:=hm
 have hCR:C.l.length=R.l.length:=by omega
 have hn:(bcL b p.c.l.length).length=(brL b p.r.l.length).length:=by rw[<-hCl,<-hRl];exact hCR
 rw[hCR,hRl,<-hn,hn] at hm
 have hmE:Mr m (zJ p q b) (brL b p.r.l.length).length (brL b p.r.l.length).length B:=by
  have e:zJ p q b=λk=>iV (atN (bcL b p.c.l.length)) (brL b p.r.l.length).length (q.M (atN (brL b p.r.l.length) k)):=funext λk=>by unfold zJ;rw[hn]
  rw[e];exact hm
 have hrb:rbM (zJ p q b) (brL b p.r.l.length).length B:=λi hi=>aIv (h.e _ ((fS (P:=λi=>b.r.l.getD i 0≠2) p.r.l.length).1.lt i hi))
 refine⟨[],bCw m hmE hrb h.h1 (aG (nD oM) hB) oM,rfl,rfl,rfl,λg hg=>?_⟩
 cases g with
 |none=>
  refine⟨λh5=>aA gT mxd ?_,λh5=>absurd (show((6:Int)≠0) by decide) h5⟩
  exact⟨none,λhh=>hh.k hg,aM ⟨rfl,rfl⟩ rfl trivial⟩
 |some g=>
  obtain⟨f,rw',cl,Lw,Up⟩:=g
  obtain⟨⟨g1,g2,g3,g4⟩,g5,g6,g7⟩:=hg
  refine⟨λh5=>absurd rfl h5,λh5=>aA gT mxd ⟨some (⟨C,R,f⟩,rw',cl,Lw,Up),⟨⟨hok,hn,g5.nk⟩,hCl,hRl,⟨g1,g2,g3,g4,g5,g6,g7⟩⟩,aM ⟨rfl,rfl⟩ rfl trivial⟩⟩
abbrev bKm:FuncId:=20
theorem cKz:Ent Tryz.prog bKm:=aW func20 rfl kR
theorem cLa:Tryz.prog.funcs[bKm]? =some Tryz.f20:=func20
theorem cFd (p:ProgM) (b:BasM) {q:PrQ} {B:Nat} (h:PrV p q B) (hr:p.r.l.length<=12) (hB:bd B (p.r.l.length-1)<=4398046511104):Ctr Tryz.prog bKm [] [.a p.C,.a b.C] [] (λ_:Unit=>⟨pC (BVal p q b),[],True⟩):=by
 refine aX gT cKz cLa rfl rfl rfl bL aS (aA gT mxd ⟨[],aIq p h,rfl,rfl,rfl,λ_ _=>⟨λhh=>absurd rfl hh,λ_=>aA gT mxd ⟨[],bMx p b h hr hB,rfl,rfl,rfl,λg hg=>?_⟩⟩⟩)
 cases g with
 |none=>exact⟨(),trivial,aM (ff hg) rfl trivial⟩
 |some g=>exact⟨(),trivial,aM (tt hg.v) rfl trivial⟩
abbrev bVz:FuncId:=70
theorem cLb:Ent Tryz.prog bVz:=aW func70 rfl kR
theorem cLc:Tryz.prog.funcs[bVz]? =some Tryz.f70:=func70
theorem bMy (p:ProgM) (b:BasM) {q:PrQ} {B:Nat} (h:PrV p q B) (hr:p.r.l.length<=12) (hB:bd B (p.r.l.length-1)<=4398046511104):Ctr Tryz.prog bVz [] [.a p.C,.a b.C] [] (λg:bVx=>match g with
 |none=>⟨.t [.a bVw,.c (iC 1)],[],¬BVal p q b⟩
 |some (x,rw,cl,Lw,Up)=>⟨.t [.a x.C,.c (iC 0)],[],CorI p q b (bd B (brL b p.r.l.length).length) x rw cl Lw Up⟩):=by
 refine aX gT cLb cLc rfl rfl rfl bL aS (aA gT mxd ⟨[],aIq p h,rfl,rfl,rfl,λ_ _=>⟨λhh=>absurd rfl hh,λ_=>aA gT mxd ⟨[],bMx p b h hr hB,rfl,rfl,rfl,λg hg=>?_⟩⟩⟩)
 cases g with
 |none=>exact⟨none,hg,aM ⟨rfl,rfl⟩ rfl trivial⟩
 |some g=>exact⟨some g,hg,aM ⟨rfl,rfl⟩ rfl trivial⟩
structure PrC (p:ProgM) (q:PrQ):Prop where
 k:∀j,j<p.c.l.length->Cr (p.c.l.getD j default).k (q.k j)
 b:∀i,i<p.r.l.length->Cr (p.r.l.getD i default).b (q.b i)
def x0N (q:PrQ) (b:BasM) (j:Nat):Rat:=if b.c.l.getD j 0=0 then q.l j else if b.c.l.getD j 0=1 then q.u j else 0
def rsN (q:PrQ) (b:BasM) (i t:Nat):Rat:=q.b i-dtl ((q.M i).take t) (x0N q b)
structure PtR (p:ProgM) (q:PrQ) (b:BasM) (Bx:Nat) (qs:List Rat):Prop where
 ln:qs.length=p.c.l.length
 x0:∀j,j<p.c.l.length->b.c.l.getD j 0≠2->lQ qs j=x0N q b j
 ti:∀i,i<p.r.l.length->b.r.l.getD i 0≠2->dtl (q.M i) (lQ qs)=q.b i
 rb:rbL qs Bx
abbrev aMb (x:CorM) (p:ProgM) (b:BasM) (X:Nat->RatM):BL:=[(113,0,x.C),(42,0,p.C),(45,0,b.C),(62,3,rtC p.c.l.length X)]
theorem aBy {x:CorM} {p:ProgM} {b:BasM} {X:Nat->RatM}:scB 4 (aMb x p b X):=aB rfl (aB rfl (aB rfl (aB (bT eD) aY)))
abbrev aMc (x:CorM) (p:ProgM) (b:BasM) (X Z:Nat->RatM):BL:=aMb x p b X++[(62,3,rtC x.r.l.length Z)]
theorem zK {x:CorM} {p:ProgM} {b:BasM} {X Z:Nat->RatM}:scB 5 (aMc x p b X Z):=aB rfl (aB rfl (aB rfl (aB (bT eD) (aB (bT eD) aY))))
abbrev bEg (p:ProgM) (k:Nat):List (Nat×DV):=[(26,.c (iC k)),(24,.c (wG p.c)),(25,.c (iC (p.c.l.length:Nat))),(3,.c (.p 0 0)),(4,.c (.p 1 0)),(5,.c (.p 2 0)),(7,.c (.s 3 p.c.l.length))]
abbrev bKn (x:CorM) (p:ProgM) (k:Nat):List (Nat×DV):=[(64,.c (iC k)),(62,.c (cM x.r)),(63,.c (iC (x.r.l.length:Nat))),(3,.c (.p 0 0)),(4,.c (.p 1 0)),(5,.c (.p 2 0)),(7,.c (.s 3 p.c.l.length)),(10,.c (.s 4 x.r.l.length))]
abbrev bKo (x:CorM) (p:ProgM) (k i t:Nat):List (Nat×DV):=(85,.c (iC t))::(83,.c (cF (p.r.l.getD i default).e))::(84,.c (iC ((p.r.l.getD i default).e.l.length:Nat)))::(11,.c (iC k))::bKn x p k
theorem bEh (b:BasM) (n:Nat):Enm (λj=>b.c.l.getD j 0=2) n (bcL b n).length (atN (bcL b n))/\∀k,k<(bcL b n).length->(bcL b n).getD k 0=(atN (bcL b n) k:Nat):=fS n
theorem bEi (b:BasM) (n:Nat):Enm (λi=>b.r.l.getD i 0≠2) n (brL b n).length (atN (brL b n))/\∀k,k<(brL b n).length->(brL b n).getD k 0=(atN (brL b n) k:Nat):=fS n
theorem bEj {q:PrQ} {b:BasM} {i:Nat}:rsN q b i 0=q.b i:=by
 unfold rsN;rw[wS,show dtl ([]:List En) (x0N q b)=0 from rfl];grind
theorem bEk {p:ProgM} {q:PrQ} {B:Nat} (h:PrV p q B) {b:BasM} {j:Nat} (hj:j<p.c.l.length):rb (x0N q b j) B:=by
 unfold x0N
 have hc:=h.rd.c j hj
 split
 ·exact hc.l.rb h.h1
 split
 ·exact hc.u.rb h.h1
 exact yZ h.h1
theorem bMz {p:ProgM} {q:PrQ} {B:Nat} (h:PrV p q B) {b:BasM} {i t:Nat} (hi:i<p.r.l.length) (ht:t<=(q.M i).length):rb (rsN q b i t) (2+B+p.c.l.length*(B+B+1)):=by
 have h1:=(h.rd.r i hi).b.rb h.h1
 have hv:=h.v i hi
 have h2:=aPk (x:=x0N q b) (es:=(q.M i).take t) (λe he=>h.e i hi e (dA he)) λe he=>bEk (b:=b) h (by have:=hv.2.2 e (dA he);omega)
 have h3:((q.M i).take t).length*(B+B+1)<=p.c.l.length*(B+B+1):=aQ _ (by rw[bA];have:=h.len hi;omega)
 exact(qH h1 h2).le oM
abbrev bKp (x:CorM) (p:ProgM) (b:BasM) (X W:Nat->RatM):BL:=aMb x p b X++[(62,3,[]),(62,3,rtC x.r.l.length W)]
theorem aSz {x:CorM} {p:ProgM} {b:BasM} {X W:Nat->RatM}:scB 6 (bKp x p b X W):=aB rfl (aB rfl (aB rfl (aB (bT eD) (aB rfl (aB (bT eD) aY)))))
abbrev bWa (x:CorM) (p:ProgM) (k:Nat):List (Nat×DV):=[(124,.c (iC k)),(122,.c (cM x.c)),(123,.c (iC (x.c.l.length:Nat))),(7,.c (.s 3 p.c.l.length)),(15,.c (.s 5 x.r.l.length))]
abbrev bWb:FuncId:=71
theorem cLd:Ent Tryz.prog bWb:=aW func71 rfl kR
theorem cLe:Tryz.prog.funcs[bWb]? =some Tryz.f71:=func71
theorem cFe (x:CorM) (p:ProgM) (b:BasM) {q:PrQ} {B:Nat} {rw cl:Nat->Nat} {Lw Up:Nat->List En} (h:PrV p q B) (hc:PrC p q) (hI:CorI p q b (bd B (brL b p.r.l.length).length) x rw cl Lw Up) (hS:yb (zb (2+B+p.c.l.length*(B+B+1)) (bd B (brL b p.r.l.length).length) (brL b p.r.l.length).length) (bd B (brL b p.r.l.length).length) (brL b p.r.l.length).length<=4398046511104):Ctr Tryz.prog bWb [] [.a x.C,.a p.C,.a b.C] [] (λg:Sl RatM×List Rat=>⟨.c (fY g.1),[],Rl g.1.l g.2/\PtR p q b (B+yb (zb (2+B+p.c.l.length*(B+B+1)) (bd B (brL b p.r.l.length).length) (brL b p.r.l.length).length) (bd B (brL b p.r.l.length).length) (brL b p.r.l.length).length) g.2⟩):=by
 obtain⟨m,hm⟩:∃m,m=(brL b p.r.l.length).length:=⟨_,rfl⟩
 obtain⟨F,hF⟩:∃F,F=bd B m:=⟨_,rfl⟩
 obtain⟨Br,hBr⟩:∃Br,Br=2+B+p.c.l.length*(B+B+1):=⟨_,rfl⟩
 obtain⟨Y,hY⟩:∃Y,Y=yb (zb Br F m) F m:=⟨_,rfl⟩
 rw[<-hm,<-hF,<-hBr,<-hY] at hS ⊢
 have hIf:=hI.f
 rw[<-hm,<-hF] at hIf
 have hpc:=h.c
 have hpr:=h.r
 have hBB:=h.hB
 have h1:=h.h1
 have hbok:=hI.v.ok
 have hxr:x.r.l.length=m:=by rw[hI.r,hm]
 have hxc:x.c.l.length=m:=by rw[hI.c,hI.v.n,hm]
 obtain⟨e1,e2⟩:=bEh b p.c.l.length
 obtain⟨f1,f2⟩:=bEi b p.r.l.length
 have hml:m<=p.r.l.length:=by rw[hm];exact jQ
 have hBrS:Br<=4398046511104:=by
  have a1:zb Br F m<=Y:=by rw[hY];exact aLm (aC m)
  have a2:Br<=zb Br F m:=aSn (aC m)
  omega
 refine aX gT cLd cLe rfl rfl rfl bL aS (aA gT mxd ⟨p.c.l.length,⟨rfl,rfl,by show 56*_<=_;omega,by simp only[maxLen];omega⟩,?_⟩)
 show Sd _ _ _ _ _ _
 refine gK tSd 3 (rtC p.c.l.length λ_=>default) rfl lT.1 lT.2 ?_
 refine cO (λ_=>true) (λg:Nat×(Nat->RatM)=>bEg p g.1) (λg=>aMb x p b g.2) (λ_=>[]) (λg=>g.1<=p.c.l.length/\∀j,j<g.1->Cr (g.2 j) (x0N q b j)) (λg=>p.c.l.length-g.1) λhM=>⟨bS hM (chg:=λg:Nat×(Nat->RatM)=>bEg p g.1) (bls:=λg=>aMb x p b g.2) (fls:=λ_=>[]) (0,λ_=>default) ⟨aC _,λj hj=>absurd hj (aD _)⟩ rfl ⟨rfl,rfl,rfl,rfl⟩ trivial ⟨rfl,rfl,rfl,rfl,rfl,rfl,rfl⟩ bL aBy rfl,λ⟨k,X⟩ ⟨hk,hX⟩=>aA gT mxd ⟨λh2=>aA gT mxd ?_,λh2=>aA gT mxd ?_⟩⟩
 all_goals
  replace hk:k<=p.c.l.length:=hk
  replace hX:∀j,j<k->Cr (X j) (x0N q b j):=hX
 ·replace h2:(k:Int)<(p.c.l.length:Nat):=h2
  have hkn:k<p.c.l.length:=by omega
  have hbl:=hbok.c
  have hcol:=h.rd.c k hkn
  have fin:∀g:RatM,Cr g (x0N q b k)->∀j,j<k+1->Cr (upd X k g j) (x0N q b j):=λg hg j hj=>by
   by_cases e:j=k
   ·subst e;rw[bN];exact hg
   rw[bD e];exact hX j oM
  refine⟨k,⟨rfl,hkn⟩,k,⟨rfl,by omega⟩,⟨λh3=>aA gT mxd ?_,λh3=>aA gT mxd ⟨λh4=>aA gT mxd ?_,λh4=>aA gT mxd ?_⟩⟩⟩
  ·replace h3:b.c.l.getD k 0=0:=h3
   have e:x0N q b k=q.l k:=if_pos h3
   exact⟨[],nJ (p.c.l.getD k default).l (hcol.l.le hBB),rfl,rfl,rfl,λg hg=>⟨k,⟨rfl,hkn,fD hkn⟩,_,iA hkn,(k+1:Nat),wi,bS hM (chg:=λg:Nat×(Nat->RatM)=>bEg p g.1) (bls:=λg=>aMb x p b g.2) (fls:=λ_=>[]) (k+1,upd X k g) ⟨⟨hkn,fin g (by rw[e];exact hg)⟩,show p.c.l.length-(k+1)<p.c.l.length-k by omega⟩ rfl ⟨rfl,rfl,rfl,rfl⟩ trivial ⟨rfl,rfl,rfl,rfl,rfl,rfl,rfl⟩ bL aBy rfl⟩⟩
  ·replace h3:¬b.c.l.getD k 0=0:=h3
   replace h4:b.c.l.getD k 0=1:=h4
   have e:x0N q b k=q.u k:=(if_neg h3).trans (if_pos h4)
   exact⟨[],nJ (p.c.l.getD k default).u (hcol.u.le hBB),rfl,rfl,rfl,λg hg=>⟨k,⟨rfl,hkn,fD hkn⟩,_,iA hkn,(k+1:Nat),wi,bS hM (chg:=λg:Nat×(Nat->RatM)=>bEg p g.1) (bls:=λg=>aMb x p b g.2) (fls:=λ_=>[]) (k+1,upd X k g) ⟨⟨hkn,fin g (by rw[e];exact hg)⟩,show p.c.l.length-(k+1)<p.c.l.length-k by omega⟩ rfl ⟨rfl,rfl,rfl,rfl⟩ trivial ⟨rfl,rfl,rfl,rfl,rfl,rfl,rfl⟩ bL aBy rfl⟩⟩
  replace h3:¬b.c.l.getD k 0=0:=h3
  replace h4:¬b.c.l.getD k 0=1:=h4
  have e:x0N q b k=((0:Int):Rat):=(if_neg h3).trans (if_neg h4)
  exact⟨[],sD (z:=0) dC,rfl,rfl,rfl,λg hg=>⟨k,⟨rfl,hkn,fD hkn⟩,_,iA hkn,(k+1:Nat),wi,bS hM (chg:=λg:Nat×(Nat->RatM)=>bEg p g.1) (bls:=λg=>aMb x p b g.2) (fls:=λ_=>[]) (k+1,upd X k g) ⟨⟨hkn,fin g (by rw[e];exact hg)⟩,show p.c.l.length-(k+1)<p.c.l.length-k by omega⟩ rfl ⟨rfl,rfl,rfl,rfl⟩ trivial ⟨rfl,rfl,rfl,rfl,rfl,rfl,rfl⟩ bL aBy rfl⟩⟩
 replace h2:¬(k:Int)<(p.c.l.length:Nat):=h2
 obtain rfl:k=p.c.l.length:=by omega
 refine aA gT mxd ⟨x.r.l.length,⟨rfl,rfl,by show 56*_<=_;omega,by simp only[maxLen];omega⟩,?_⟩
 show Sd _ _ _ _ _ _
 refine gK tSd 4 (rtC x.r.l.length λ_=>default) rfl lT.1 lT.2 ?_
 refine cO (λ_=>true) (λg:Nat×(Nat->RatM)=>bKn x p g.1) (λg=>aMc x p b X g.2) (λ_=>[]) (λg=>g.1<=x.r.l.length/\∀j,j<g.1->Cr (g.2 j) (rsN q b (atN (brL b p.r.l.length) j) (q.M (atN (brL b p.r.l.length) j)).length)) (λg=>x.r.l.length-g.1) λhM=>⟨bS hM (chg:=λg:Nat×(Nat->RatM)=>bKn x p g.1) (bls:=λg=>aMc x p b X g.2) (fls:=λ_=>[]) (0,λ_=>default) ⟨aC _,λj hj=>absurd hj (aD _)⟩ rfl ⟨rfl,rfl,rfl,rfl,rfl⟩ trivial ⟨rfl,rfl,rfl,rfl,rfl,rfl,rfl,rfl⟩ bL zK rfl,λ⟨k,Z⟩ ⟨hk,hZ⟩=>aA gT mxd ⟨λh3=>aA gT mxd ?_,λh3=>aA gT mxd ?_⟩⟩
 all_goals
  replace hk:k<=x.r.l.length:=hk
  replace hZ:∀j,j<k->Cr (Z j) (rsN q b (atN (brL b p.r.l.length) j) (q.M (atN (brL b p.r.l.length) j)).length):=hZ
 ·replace h3:(k:Int)<(x.r.l.length:Nat):=h3
  have hkn:k<x.r.l.length:=by omega
  have hkm:k<(brL b p.r.l.length).length:=by omega
  have r1:x.r.l.getD k 0=(atN (brL b p.r.l.length) k:Nat):=by rw[hI.r];exact f2 k hkm
  have r2:atN (brL b p.r.l.length) k<p.r.l.length:=f1.lt k hkm
  have hrow:=h.rd.r _ r2
  have hv:=h.v _ r2
  have hle:(p.r.l.getD (atN (brL b p.r.l.length) k) default).e.l.length=(q.M (atN (brL b p.r.l.length) k)).length:=hrow.e.ln
  have hlen:=h.len r2
  refine⟨k,⟨rfl,hkn⟩,atN (brL b p.r.l.length) k,⟨r1,r2⟩,k,⟨rfl,hkn,fD hkn⟩,_,iA hkn,atN (brL b p.r.l.length) k,⟨r1,r2⟩,?_⟩
  show Sd _ _ _ _ _ _
  refine cO (λ_=>true) (λg:Nat×(Nat->RatM)=>bKo x p k (atN (brL b p.r.l.length) k) g.1) (λg=>aMc x p b X g.2) (λ_=>[]) (λg=>g.1<=(q.M (atN (brL b p.r.l.length) k)).length/\(∀j,j<k->Cr (g.2 j) (rsN q b (atN (brL b p.r.l.length) j) (q.M (atN (brL b p.r.l.length) j)).length))/\Cr (g.2 k) (rsN q b (atN (brL b p.r.l.length) k) g.1)) (λg=>(q.M (atN (brL b p.r.l.length) k)).length-g.1) λhM2=>⟨bS hM2 (chg:=λg:Nat×(Nat->RatM)=>bKo x p k (atN (brL b p.r.l.length) k) g.1) (bls:=λg=>aMc x p b X g.2) (fls:=λ_=>[]) (0,upd Z k (p.r.l.getD (atN (brL b p.r.l.length) k) default).b) ⟨aC _,λj hj=>?_,?_⟩ rfl ⟨rfl,rfl,rfl,rfl,rfl⟩ trivial ⟨rfl,rfl,rfl,rfl,rfl,rfl,rfl,rfl,rfl,rfl,rfl,rfl⟩ bL zK rfl,λ⟨t,Z⟩ ⟨ht,hZ,hZk⟩=>aA gT mxd ⟨λh4=>aA gT mxd ?_,λh4=>aA gT mxd ?_⟩⟩
  ·show Cr (upd Z k _ j) _
   rw[bD oM];exact hZ j hj
  ·show Cr (upd Z k _ k) _
   rw[bN,bEj];exact hc.b _ r2
  all_goals
   replace ht:t<=(q.M (atN (brL b p.r.l.length) k)).length:=ht
   replace hZ:∀j,j<k->Cr (Z j) (rsN q b (atN (brL b p.r.l.length) j) (q.M (atN (brL b p.r.l.length) j)).length):=hZ
   replace hZk:Cr (Z k) (rsN q b (atN (brL b p.r.l.length) k) t):=hZk
  ·replace h4:(t:Int)<((p.r.l.getD (atN (brL b p.r.l.length) k) default).e.l.length:Nat):=h4
   have htl:t<(q.M (atN (brL b p.r.l.length) k)).length:=by omega
   have hte:t<(p.r.l.getD (atN (brL b p.r.l.length) k) default).e.l.length:=by omega
   have he:=hrow.e.e t htl
   have hvt:=hv.2.2 _ (fX htl)
   obtain⟨e0,he0⟩:∃e0:Nat,((q.M (atN (brL b p.r.l.length) k)).getD t default).1=(e0:Nat):=⟨((q.M (atN (brL b p.r.l.length) k)).getD t default).1.toNat,by omega⟩
   have hec:e0<p.c.l.length:=by omega
   have hix:((p.r.l.getD (atN (brL b p.r.l.length) k) default).e.l.getD t default).ix=(e0:Nat):=he.1.trans he0
   have hx0:=hX e0 hec
   have rx0:=bEk (b:=b) h hec
   have re:=h.e _ r2 _ (fX htl)
   have hnx:rsN q b (atN (brL b p.r.l.length) k) (t+1)=rsN q b (atN (brL b p.r.l.length) k) t-((q.M (atN (brL b p.r.l.length) k)).getD t default).2*x0N q b e0:=by
    unfold rsN
    rw[aLp htl,he0,cD];grind
   have hrs:=bMz (b:=b) h r2 (t:=t) oM
   rw[<-hBr] at hrs
   have hmb:B+B<=4398046511104:=by
    have:1*(B+B+1)<=p.c.l.length*(B+B+1):=aQ _ oM
    omega
   refine⟨t,⟨rfl,hte⟩,e0,⟨hix,hec,fD hec⟩,_,kT hec,[],jF (X e0) (hx0.rq (rx0.le hBB)),rfl,rfl,rfl,λ_ _=>⟨λh5=>aA gT mxd ?_,λh5=>aA gT mxd ?_⟩⟩
   ·refine⟨.seq [(0,false),(1,false),(2,false),(3,false),(4,false),(5,false),(6,false),(7,false),(8,false),(9,false),(10,false),(11,false),(12,false),(13,false),(14,true),(15,false),(16,true)],by kernel_rfl,k,⟨rfl,hkn,fD hkn⟩,_,kT hkn,e0,⟨hix,hec,fD hec⟩,_,kT hec,[],pQ ((p.r.l.getD (atN (brL b p.r.l.length) k) default).e.l.getD t default).v (X e0) (he.2.le hBB) (hx0.rq (rx0.le hBB)),rfl,rfl,rfl,λg hg=>⟨[],aIa (Z k) g (hZk.rq (hrs.le hBrS)) (Cr.rq hg ((fI re rx0).le hmb)),rfl,rfl,rfl,λd hd=>⟨k,⟨rfl,hkn,fD hkn⟩,_,iA hkn,(t+1:Nat),wi,bS hM2 (chg:=λg:Nat×(Nat->RatM)=>bKo x p k (atN (brL b p.r.l.length) k) g.1) (bls:=λg=>aMc x p b X g.2) (fls:=λ_=>[]) (t+1,upd Z k d) ⟨⟨htl,λj hj=>?_,?_⟩,show(q.M (atN (brL b p.r.l.length) k)).length-(t+1)<(q.M (atN (brL b p.r.l.length) k)).length-t by omega⟩ rfl ⟨rfl,rfl,rfl,rfl,rfl⟩ trivial ⟨rfl,rfl,rfl,rfl,rfl,rfl,rfl,rfl,rfl,rfl,rfl,rfl⟩ bL zK rfl⟩⟩⟩
    ·show Cr (upd Z k d j) _
     rw[bD oM];exact hZ j hj
    show Cr (upd Z k d k) (rsN q b _ (t+1))
    rw[bN,hnx];exact hd
   have h0:x0N q b e0=0:=dW.1 (gW.1 (dZ.1 h5))
   refine⟨(t+1:Nat),wi,bS hM2 (chg:=λg:Nat×(Nat->RatM)=>bKo x p k (atN (brL b p.r.l.length) k) g.1) (bls:=λg=>aMc x p b X g.2) (fls:=λ_=>[]) (t+1,Z) ⟨⟨htl,hZ,?_⟩,show(q.M (atN (brL b p.r.l.length) k)).length-(t+1)<(q.M (atN (brL b p.r.l.length) k)).length-t by omega⟩ rfl ⟨rfl,rfl,rfl,rfl,rfl⟩ trivial ⟨rfl,rfl,rfl,rfl,rfl,rfl,rfl,rfl,rfl,rfl,rfl,rfl⟩ bL zK rfl⟩
   show Cr (Z k) (rsN q b _ (t+1))
   rw[hnx,h0,bZ,aLn];exact hZk
  replace h4:¬(t:Int)<((p.r.l.getD (atN (brL b p.r.l.length) k) default).e.l.length:Nat):=h4
  have htt:t=(q.M (atN (brL b p.r.l.length) k)).length:=by omega
  rw[htt] at hZk
  exact⟨(k+1:Nat),wi,bS hM (chg:=λg:Nat×(Nat->RatM)=>bKn x p g.1) (bls:=λg=>aMc x p b X g.2) (fls:=λ_=>[]) (k+1,Z) ⟨⟨hkn,λj hj=>(cX (dJ hj)).elim (hZ j) λe=>e▸hZk⟩,show x.r.l.length-(k+1)<x.r.l.length-k by omega⟩ rfl ⟨rfl,rfl,rfl,rfl,rfl⟩ trivial ⟨rfl,rfl,rfl,rfl,rfl,rfl,rfl,rfl⟩ bL zK rfl⟩
 replace h3:¬(k:Int)<(x.r.l.length:Nat):=h3
 obtain rfl:k=x.r.l.length:=by omega
 have hIf':LuG x.f (zJ p q b) x.r.l.length rw cl Lw Up F:=by rw[hxr];exact hIf
 have hS':yb (zb Br F x.r.l.length) F x.r.l.length<=4398046511104:=by rw[hxr,<-hY];exact hS
 have hF1:1<=F:=by rw[hF];exact xV h1 m
 have hFF:F<=4398046511104:=by
  rcases bX m with e|e
  ·rw[hF,e];exact hBB
  have a1:F<=yb (zb Br F m) F 1:=Nat.le_add_left _ _
  have a2:yb (zb Br F m) F 1<=Y:=by rw[hY];exact aLm e
  omega
 have hkap:∀l,l<x.c.l.length->x.c.l.getD l 0=(atN (bcL b p.c.l.length) l:Nat)/\atN (bcL b p.c.l.length) l<p.c.l.length/\b.c.l.getD (atN (bcL b p.c.l.length) l) 0=2:=λl hl=>by
  have hl':l<(bcL b p.c.l.length).length:=by rw[<-hI.c];exact hl
  exact⟨by rw[hI.c];exact e2 l hl',e1.lt l hl',e1.mem l hl'⟩
 have hkinj:∀l l',l<x.c.l.length->l'<x.c.l.length->atN (bcL b p.c.l.length) l=atN (bcL b p.c.l.length) l'->l=l':=λl l' hl hl' he=>e1.inj (by rw[<-hI.c];exact hl) (by rw[<-hI.c];exact hl') he
 show Sd _ _ _ _ _ _
 refine yR 10 4 (λj=>((qX Z x.r.l.length).getD j default).C) rfl rfl (λj hj=>aBl j hj) (by rw[oW (P:=λj=>(Z j).C) (e:=3) λ_ _=>rfl]) bL eD bL λA c _ _=>⟨λc hc=>fC (eD c hc),?_⟩
 have hct:=bDb x.f ⟨A,c,qX Z x.r.l.length⟩ (bv:=λk=>rsN q b (atN (brL b p.r.l.length) k) (q.M (atN (brL b p.r.l.length) k)).length) (B:=Br) hIf' hF1 oM zC (λk hk=>⟨by show Cr ((qX Z x.r.l.length).getD k default) _;rw[aDl hk];exact hZ k hk,by rw[hBr];exact bMz (b:=b) h (f1.lt k (by rw[<-hI.r];exact hk)) (aJ _)⟩) oM hFF hS'
 rw[show fY ⟨A,c,qX Z x.r.l.length⟩=CV.r A x.r.l.length c 3 (λj=>((qX Z x.r.l.length).getD j default).C) from aIs.symm] at hct
 refine aA gT mxd ⟨[],hct,rfl,rfl,rfl,λ⟨W,w⟩ ⟨hSol,hW⟩=>?_⟩
 replace hSol:Sol (zJ p q b) x.r.l.length (λk=>rsN q b (atN (brL b p.r.l.length) k) (q.M (atN (brL b p.r.l.length) k)).length) w:=hSol
 replace hW:∀c,c<x.r.l.length->Cr (W c) (w c)/\rb (w c) (yb (zb Br F x.r.l.length) F x.r.l.length):=hW
 rw[hxr,<-hY,<-hxr] at hW
 show Sd _ _ _ _ _ _
 refine cO (λ_=>true) (λg:Nat×(Nat->RatM)=>bWa x p g.1) (λg=>bKp x p b g.2 W) (λ_=>[]) (λg=>g.1<=x.c.l.length/\(∀l,l<g.1->Cr (g.2 (atN (bcL b p.c.l.length) l)) (w l))/\∀j,j<p.c.l.length->(∀l,l<g.1->atN (bcL b p.c.l.length) l≠j)->Cr (g.2 j) (x0N q b j)) (λg=>x.c.l.length-g.1) λhM3=>⟨bS hM3 (chg:=λg:Nat×(Nat->RatM)=>bWa x p g.1) (bls:=λg=>bKp x p b g.2 W) (fls:=λ_=>[]) (0,X) ⟨aC _,λl hl=>absurd hl (aD _),λj hj _=>hX j hj⟩ rfl ⟨rfl,rfl,rfl,rfl,rfl,rfl⟩ trivial ⟨rfl,rfl,rfl,rfl,rfl⟩ bL aSz rfl,λ⟨k,X'⟩ ⟨hk,hb1,hb2⟩=>aA gT mxd ⟨λh6=>aA gT mxd ?_,λh6=>aA gT mxd ?_⟩⟩
 all_goals
  replace hk:k<=x.c.l.length:=hk
  replace hb1:∀l,l<k->Cr (X' (atN (bcL b p.c.l.length) l)) (w l):=hb1
  replace hb2:∀j,j<p.c.l.length->(∀l,l<k->atN (bcL b p.c.l.length) l≠j)->Cr (X' j) (x0N q b j):=hb2
 ·replace h6:(k:Int)<(x.c.l.length:Nat):=h6
  have hkn:k<x.c.l.length:=by omega
  have hkr:k<x.r.l.length:=by omega
  obtain⟨c1,c2,c3⟩:=hkap k hkn
  refine⟨k,⟨rfl,hkn⟩,k,⟨rfl,hkr,fD hkr⟩,_,kT hkr,atN (bcL b p.c.l.length) k,⟨c1,c2,fD c2⟩,_,iA c2,(k+1:Nat),wi,bS hM3 (chg:=λg:Nat×(Nat->RatM)=>bWa x p g.1) (bls:=λg=>bKp x p b g.2 W) (fls:=λ_=>[]) (k+1,upd X' (atN (bcL b p.c.l.length) k) (W k)) ⟨⟨hkn,λl hl=>?_,λj hj hno=>?_⟩,show x.c.l.length-(k+1)<x.c.l.length-k by omega⟩ rfl ⟨rfl,rfl,rfl,rfl,rfl,rfl⟩ trivial ⟨rfl,rfl,rfl,rfl,rfl⟩ bL aSz rfl⟩
  ·show Cr (upd X' _ _ (atN (bcL b p.c.l.length) l)) (w l)
   by_cases e:l=k
   ·rw[e,bN];exact(hW k hkr).1
   have hl':l<k+1:=hl
   rw[bD λhe=>e (hkinj l k oM hkn he)];exact hb1 l oM
  show Cr (upd X' _ _ j) _
  rw[bD λhe=>hno k (bE k) he.symm];exact hb2 j hj λl hl=>hno l (eA hl)
 replace h6:¬(k:Int)<(x.c.l.length:Nat):=h6
 obtain rfl:k=x.c.l.length:=by omega
 have hbas:∀j,j<p.c.l.length->b.c.l.getD j 0=2->∃l,l<x.c.l.length/\atN (bcL b p.c.l.length) l=j:=λj hj hs=>by rw[hI.c];exact e1.all j hj hs
 have hx2:∀j,b.c.l.getD j 0=2->x0N q b j=0:=λj hs=>by unfold x0N;rw[hs];rfl
 obtain⟨xs,hxs⟩:∃xs:Nat->Rat,xs=λj=>x0N q b j+spr x.c.l.length (atN (bcL b p.c.l.length)) w j:=⟨_,rfl⟩
 have hxb:∀l,l<x.c.l.length->xs (atN (bcL b p.c.l.length) l)=w l:=λl hl=>by
  rw[hxs]
  show x0N q b _+spr _ _ _ _=_
  rw[hx2 _ (hkap l hl).2.2,aJb hl λl' hl' he=>hkinj l' l hl' hl he,fM]
 have hxn:∀j,b.c.l.getD j 0≠2->xs j=x0N q b j:=λj hs=>by
  rw[hxs]
  show x0N q b _+spr _ _ _ _=_
  rw[aJc λl hl he=>absurd (by rw[<-he];exact(hkap l hl).2.2) hs,bM]
 have hqs:∀j,j<p.c.l.length->lQ ((List.range p.c.l.length).map xs) j=xs j:=λj hj=>by unfold lQ;simp[hj]
 have hcr:∀j,j<p.c.l.length->Cr (X' j) (xs j):=λj hj=>by
  by_cases hs:b.c.l.getD j 0=2
  ·obtain⟨l,hl,rfl⟩:=hbas j hj hs
   rw[hxb l hl];exact hb1 l hl
  rw[hxn j hs];exact hb2 j hj λl hl he=>hs (by rw[<-he];exact(hkap l hl).2.2)
 refine yR 7 3 (λj=>((qX X' p.c.l.length).getD j default).C) rfl rfl (λj hj=>aBl j hj) (by rw[oW (P:=λj=>(X' j).C) (e:=3) λ_ _=>rfl]) bL eD bL λA2 c2 _ _=>⟨(λc hc=>by cases hc),λc hc=>fC (eD c hc),aA gT mxd ⟨(⟨A2,c2,qX X' p.c.l.length⟩,(List.range p.c.l.length).map xs),⟨⟨?_,λj hj=>?_⟩,⟨by simp,λj hj hs=>?_,λi hi hs=>?_,λq hq=>?_⟩⟩,aM aIs rfl trivial⟩⟩
 ·show(qX X' p.c.l.length).length=_
  rw[zC];simp
 ·have hj':j<p.c.l.length:=by simpa using hj
  show Cr ((qX X' p.c.l.length).getD j default) (lQ ((List.range p.c.l.length).map xs) j)
  rw[aDl hj',hqs j hj'];exact hcr j hj'
 ·rw[hqs j hj];exact hxn j hs
 ·obtain⟨k,hk,hki⟩:=f1.all i hi hs
  have hk':k<x.r.l.length:=by rw[hI.r];exact hk
  have hv:=(h.v i hi).2
  have s1:=(hSol w).2 (λ_ _=>rfl) k hk'
  have hn:x.r.l.length=(bcL b p.c.l.length).length:=by rw[hxr,<-hI.c,hxc]
  have s2:dtn x.r.l.length (zJ p q b k) w=cA (λl=>Vm.get (q.M i) (atN (bcL b p.c.l.length) l:Nat)*w l) x.c.l.length:=by
   unfold dtn
   rw[hxr,<-hxc]
   refine bP λl hl=>?_
   have hl':l<(bcL b p.c.l.length).length:=by rw[<-hI.c];exact hl
   show Vm.get (iV _ _ (q.M (atN (brL b p.r.l.length) k))) _*_=_
   rw[rD (λk l hkl hl=>e1.mono k l hkl hl) (h.v _ (f1.lt k hk)).2.1 hl',show atN (brL b p.r.l.length) k=i from hki]
  rw[s2] at s1
  have s3:dtl (q.M i) (lQ ((List.range p.c.l.length).map xs))=dtl (q.M i) (x0N q b)+cA (λl=>Vm.get (q.M i) (atN (bcL b p.c.l.length) l:Nat)*w l) x.c.l.length:=by
   rw[sI (n:=p.c.l.length) λe he=>⟨(hv.2 e he).1,(hv.2 e he).2.1⟩,sI (n:=p.c.l.length) λe he=>⟨(hv.2 e he).1,(hv.2 e he).2.1⟩]
   unfold dtn
   rw[<-aBw (c:=p.c.l.length) (f:=λj=>Vm.get (q.M i) (j:Nat)) λl hl=>(hkap l hl).2.1,<-rA]
   refine bP λj hj=>?_
   rw[hqs j hj,hxs];grind
  rw[s3,s1]
  show _+(q.b (atN (brL b p.r.l.length) k)-dtl ((q.M (atN (brL b p.r.l.length) k)).take _) _)=_
  rw[cZ,show atN (brL b p.r.l.length) k=i from hki];grind
 obtain⟨j,hj,rfl⟩:=cB.1 hq
 have hj':=cQ.1 hj
 by_cases hs:b.c.l.getD j 0=2
 ·obtain⟨l,hl,rfl⟩:=hbas j hj' hs
  rw[hxb l hl];exact(hW l oM).2.le oM
 rw[hxn j hs];exact(bEk (b:=b) h hj').le oM
def zT (B F:Nat):Nat->Nat
 |0=>B
 |k+1=>2*zT B F k+2*F+1
theorem aEc {B F k n:Nat} (h:k<=n):zT B F k<=zT B F n:=by
 induction h with
 |refl=>exact aJ _
 |step _ ih=>exact aG ih (by show _<=2*zT B F _+2*F+1;omega)
theorem aTa {l:List En} (ha:Asc l) (t:Nat) (j:Int):Vm.get (l.take t) j=0\/Vm.get (l.take t) j=Vm.get l j:=by
 by_cases h:∃e∈l.take t,e.1=j
 ·refine .inr ?_
  obtain⟨e,he,rfl⟩:=h
  have e1:Vm.get l e.1=Vm.get (l.take t) e.1+Vm.get (l.drop t) e.1:=by rw[<-get_append,dP]
  have ha':Asc (l.take t++l.drop t):=by rw[dP];exact ha
  rw[e1,get_none (a:=l.drop t) λf hf h=>by
   have:e.1<f.1:=(eM.1 ha').2.2 e he f hf
   omega,bM]
 exact .inl (get_none λe he h2=>h ⟨e,he,h2⟩)
theorem aTb {l:List En} {t j0:Nat} (h:t<l.length) (he:(l.getD t default).1=(j0:Nat)) (j:Nat):Vm.get (l.take (t+1)) (j:Nat)=Vm.get (l.take t) (j:Nat)+if j=j0 then (l.getD t default).2 else 0:=by
 rw[aAd h,get_append,tS,he]
 show _+(_+(0:Rat))=_
 rw[bM]
 by_cases e:j=j0
 ·rw[if_pos e,if_pos oM]
 rw[if_neg e,if_neg oM]
section
variable {n F B:Nat} {Lw Up lo us:Nat->List En} {p c y:Nat->Rat} (hP:LuP n Lw Up lo us p) (h1:1<=F)
def aJe (us:Nat->List En) (p c:Nat->Rat) (i t:Nat):Nat->Rat:=λj=>if j=i then fwT us p c i i/p i else fwT us p c i j-Vm.get ((us i).take t) (j:Nat)*(fwT us p c i i/p i)
def aEp (lo:Nat->List En) (n:Nat) (y:Nat->Rat) (k t:Nat):Nat->Rat:=λj=>bkT lo n y k j-Vm.get ((lo (n-1-k)).take t) (j:Nat)*bkT lo n y k (n-1-k)
include h1
theorem aTc {i t j:Nat} (hi:i<n) (hj:j<n) (hp:rb (p i) F) (ha:Asc (us i)) (hb:rbE (us i) F) (h:∀j,j<n->rb (fwT us p c i j) (zT B F i)) (hB:1<=B):rb (aJe us p c i t j) (zT B F (i+1)):=by
 have g1:1<=zT B F i:=aG hB (aEc (aC i))
 have e1:zT B F (i+1)=2*zT B F i+2*F+1:=rfl
 have hy:=aIo (h i hi) hp g1
 unfold aJe
 by_cases e:j=i
 ·rw[if_pos e];exact hy.le oM
 rw[if_neg e]
 rcases aTa ha t j with h2|h2
 ·rw[h2,cY,wI];exact(h j hj).le oM
 rw[h2];exact(qH (h j hj) (fI (qW ha hb h1) hy)).le oM
theorem bEl (hp:∀i,i<n->rb (p i) F) (ha:∀i,i<n->Asc (us i)/\rbE (us i) F) (hc:∀j,j<n->rb (c j) B) (hB:1<=B):∀i,i<=n->∀j,j<n->rb (fwT us p c i j) (zT B F i)
 |0,_,j,hj=>hc j hj
 |i+1,hi,j,hj=>by
  have:=aTc h1 (t:=(us i).length) (show i<n by omega) hj (hp i oM) (ha i oM).1 (ha i oM).2 (bEl hp ha hc hB i oM) hB
  unfold aJe at this
  rwa [cZ] at this
theorem aTd {k t j:Nat} (hk:k<n) (hj:j<n) (ha:Asc (lo (n-1-k))) (hb:rbE (lo (n-1-k)) F) (h:∀j,j<n->rb (bkT lo n y k j) (zT B F k)):rb (aEp lo n y k t j) (zT B F (k+1)):=by
 have e1:zT B F (k+1)=2*zT B F k+2*F+1:=rfl
 unfold aEp
 rcases aTa ha t j with h2|h2
 ·rw[h2,cY,wI];exact(h j hj).le oM
 rw[h2];exact(qH (h j hj) (fI (qW ha hb h1) (h (n-1-k) oM))).le oM
theorem bEm (ha:∀i,i<n->Asc (lo i)/\rbE (lo i) F) (hc:∀j,j<n->rb (y j) B):∀k,k<=n->∀j,j<n->rb (bkT lo n y k j) (zT B F k)
 |0,_,j,hj=>hc j hj
 |k+1,hk,j,hj=>by
  have:=aTd h1 (t:=(lo (n-1-k)).length) (show k<n by omega) hj (ha _ oM).1 (ha _ oM).2 (bEm ha hc k oM)
  unfold aEp at this
  rwa [cZ] at this
end
theorem aTe (r f s:RatM) {a q b:Rat} (hr:Cr r a) (hra:rb a 4398046511104) (hf:Rq f q 4398046511104) (hs:Rq s b 4398046511104) (hqb:rb (q*b) 4398046511104):Ctr Tryz.prog aIb [] [.a r.C,.a f.C,.a s.C] [] (λg:RatM=>⟨.a g.C,[],Cr g (a-q*b)⟩):=by
 refine aX gT bAt bAu rfl rfl rfl bL aS (aA gT mxd ⟨[],jF s hs,rfl,rfl,rfl,λ_ _=>⟨λh=>aA gT mxd ⟨r,?_,aM rfl rfl trivial⟩,λh=>aA gT mxd ?_⟩⟩)
 ·rw[dW.1 (gW.1 h),bZ,wI];exact hr
 exact⟨.seq [(0,false),(1,false),(2,false),(3,false),(4,false),(5,true)],by kernel_rfl,[],pQ f s hf hs,rfl,rfl,rfl,λm hm=>⟨[],aIa r m (Cr.rq hr hra) (Cr.rq hm hqb),rfl,rfl,rfl,λg hg=>⟨g,hg,aM rfl rfl trivial⟩⟩⟩
theorem cFf (f:LuM) (Z0:Nat->RatM) {M:Nat->List En} {n F:Nat} {rw cl:Nat->Nat} {Lw Up:Nat->List En} (h:LuG f M n rw cl Lw Up F) (hF:F<=4398046511104) (h1:1<=F) (hn:n<=4096):Ctr Tryz.prog aSm [true] [.a f.C,.c (.s 0 n)] [(62,3,rtC n Z0)] (λ_:Unit=>⟨.c (iC 0),[(62,3,rtC n Z0)],True⟩):=by
 have hR:f.R.l.length=n:=by rw[h.R];simp
 have hw:Ctr Tryz.prog bDa [] [.a f.C,.c (iC (f.R.l.length:Nat))] [] (λ_:Unit=>⟨.c (.v (.bool true)),[],True⟩):=by rw[hR];exact cDe f h hF h1 hn
 refine aX gT bMh bMi rfl rfl rfl bL (aAb eD) (aA gT mxd ?_)
 refine⟨[],hw,rfl,rfl,rfl,λ_ _=>⟨λh2=>?_,λ_=>aA gT mxd ⟨(),trivial,fB rfl rfl bL (aB (bT eD) aY) rfl (aAb eD)⟩⟩⟩
 replace h2:¬(n:Int)=(f.R.l.length:Nat):=h2
 omega
abbrev tB1 (f:LuM) (n:Nat) (Z0 Z:Nat->RatM):BL:=[(62,3,rtC n Z0),(85,0,f.C),(62,3,rtC n Z)]
theorem aAn {f:LuM} {n:Nat} {Z0 Z:Nat->RatM}:scB 3 (tB1 f n Z0 Z):=aB (bT eD) (aB rfl (aB (bT eD) aY))
abbrev tB2 (f:LuM) (n:Nat) (Z0 Z X:Nat->RatM):BL:=[(62,3,rtC n Z0),(85,0,f.C),(62,3,rtC n Z),(62,3,rtC n X)]
theorem aJf {f:LuM} {n:Nat} {Z0 Z X:Nat->RatM}:scB 4 (tB2 f n Z0 Z X):=aB (bT eD) (aB rfl (aB (bT eD) (aB (bT eD) aY)))
theorem cLf {T T' e e':Nat} {l l':List CV} (h:∀c∈l,fO c=true) (h':∀c∈l',fO c=true):ClB [true,true] [(T,e,l),(T',e',l')]:=ClB.cons (λ_=>aR.2 h) (ClB.cons (λ_=>aR.2 h') aS)
abbrev sG0 (n i:Nat):List (Nat×DV):=[(32,.c (iC i)),(31,.c (iC n)),(1,.c (.s 0 n)),(2,.c (.p 1 0)),(7,.c (iC n)),(8,.c (.s 2 n))]
abbrev sG1 (n i:Nat):List (Nat×DV):=[(48,.c (iC i)),(47,.c (iC n)),(2,.c (.p 1 0)),(7,.c (iC n)),(8,.c (.s 2 n))]
abbrev sG2 (n i:Nat) (A:Option Addr) (c m:Nat) (row:Sl EntM) (t:Nat):List (Nat×DV):=(75,.c (iC t))::(73,.c (.r A m c 4 λj=>(row.l.getD (j+1) default).C))::(74,.c (iC m))::(10,.c (iC i))::sG1 n i
abbrev sG3 (n k:Nat):List (Nat×DV):=[(100,.c (iC k)),(99,.c (iC n)),(2,.c (.p 1 0)),(7,.c (iC n)),(8,.c (.s 2 n)),(14,.c (.s 3 n))]
abbrev sG4 (n k i:Nat) (A:Option Addr) (c m:Nat) (row:Sl EntM) (t:Nat):List (Nat×DV):=(119,.c (iC t))::(117,.c (.r A m c 4 λj=>(row.l.getD j default).C))::(118,.c (iC m))::(16,.c (iC i))::sG3 n k
abbrev aPw:FuncId:=132
theorem bWc:Ent Tryz.prog aPw:=aW func132 rfl kR
theorem bWd:Tryz.prog.funcs[aPw]? =some Tryz.f132:=func132
theorem bKq (f:LuM) (Z0:Nat->RatM) {M:Nat->List En} {n F B:Nat} {rw cl:Nat->Nat} {Lw Up:Nat->List En} {bv:Nat->Rat} (h:LuG f M n rw cl Lw Up F) (h1:1<=F) (hn:n<=4096) (hbv:∀k,k<n->Cr (Z0 k) (bv k)/\rb (bv k) B) (h1B:1<=B) (hF:F<=4398046511104) (hB:zT (zT B F n) F n<=4398046511104):
 Ctr Tryz.prog aPw [true,true] [.a f.C,.c (.s 0 n)] [(62,3,rtC n Z0)] (λg:(Nat->RatM)×(Nat->Rat)=>⟨.t [.c (.s 1 n),.c (iC 0)],[(62,3,rtC n Z0),(62,3,rtC n g.1)],TEq (enM M) n bv g.2/\∀r,r<n->Cr (g.1 r) (g.2 r)/\rb (g.2 r) (zT (zT B F n) F n)⟩):=by
 obtain⟨lo,us,p,hP⟩:=h.o.parts
 have hR:f.R.l.length=n:=by rw[h.R];simp
 have hK:f.K.l.length=n:=by rw[h.K];simp
 have hRi:((f.R.l.length:Nat):Int)=(n:Nat):=by rw[hR]
 obtain⟨c,hc⟩:∃c:Nat->Rat,c=λj=>bv (cl j):=⟨_,rfl⟩
 have hpb:∀i,i<n->rb (p i) F:=λi hi=>h.bu i hi ((i:Int),p i) (by rw[(hP.us i hi).1];exact .head _)
 have hua:∀i,i<n->Asc (us i)/\rbE (us i) F:=λi hi=>⟨by
  have:=(h.U.ok i hi).1.1
  rw[(hP.us i hi).1] at this
  exact this.tail,λe he=>h.bu i hi e (by rw[(hP.us i hi).1];exact .tail _ he)⟩
 have hla:∀i,i<n->Asc (lo i)/\rbE (lo i) F:=λi hi=>⟨(hP.lo i hi).2.1,λe he=>h.bl i hi e (by rw[(hP.lo i hi).1];exact dB _ he)⟩
 have hcb:∀j,j<n->rb (c j) B:=λj hj=>by rw[hc];exact(hbv _ (h.o.clt j hj)).2
 have hfr:=bEl (n:=n) (p:=p) (us:=us) (c:=c) h1 hpb hua hcb h1B
 obtain⟨Y,hY⟩:∃Y,Y=zT B F n:=⟨_,rfl⟩
 have hYB:Y<=4398046511104:=aG (aEc (B:=Y) (F:=F) (aC n)) (by rw[hY];exact hB)
 have h1Y:1<=Y:=by rw[hY];exact aG h1B (aEc (aC n))
 refine aX gT bWc bWd rfl rfl rfl bL (ClB.cons (λ_=>aR.2 eD) λi T es l hi=>by cases hi) (aA gT mxd ⟨none,[0],cFf f Z0 h hF h1 hn,rfl,rfl,rfl,λ_ _=>⟨λhh=>absurd rfl hh,λ_=>aA gT mxd ⟨n,⟨hRi,hRi,by show 56*n<=_;omega,by simp only[maxLen];omega⟩,?_⟩⟩⟩)
 show Sd _ _ _ _ _ _
 refine gK tSd 2 (rtC n λ_=>default) rfl lT.1 lT.2 ?_
 refine cO (λ_=>true) (λg:Nat×(Nat->RatM)=>sG0 n g.1) (λg=>tB1 f n Z0 g.2) (λ_=>[]) (λg=>g.1<=n/\∀j,j<g.1->Cr (g.2 j) (c j)) (λg=>n-g.1) λhM=>⟨bS hM (chg:=λg:Nat×(Nat->RatM)=>sG0 n g.1) (bls:=λg=>tB1 f n Z0 g.2) (fls:=λ_=>[]) (0,λ_=>default) ⟨aC _,λj hj=>absurd hj (aD _)⟩ rfl ⟨rfl,rfl,rfl⟩ trivial ⟨rfl,hRi,rfl,rfl,hRi,rfl⟩ bL aAn rfl,λ⟨i,Z⟩ ⟨hi,hZ⟩=>aA gT mxd ⟨λh2=>aA gT mxd ?_,λh2=>aA gT mxd ?_⟩⟩
 all_goals
  replace hi:i<=n:=hi
  replace hZ:∀j,j<i->Cr (Z j) (c j):=hZ
 ·replace h2:(i:Int)<(n:Nat):=h2
  have hin:i<n:=by omega
  have hci:=h.o.clt i hin
  have hix:f.K.l.getD i 0=(cl i:Nat):=by rw[h.K];exact xM hin
  refine⟨i,⟨rfl,show i<f.K.l.length by omega⟩,cl i,⟨hix,hci,fD hci⟩,_,kT hci,i,⟨rfl,hin,fD hin⟩,_,iA hin,(i+1:Nat),wi,bS hM (chg:=λg:Nat×(Nat->RatM)=>sG0 n g.1) (bls:=λg=>tB1 f n Z0 g.2) (fls:=λ_=>[]) (i+1,upd Z i (Z0 (cl i))) ⟨⟨hin,λj hj=>?_⟩,show n-(i+1)<n-i by omega⟩ rfl ⟨rfl,rfl,rfl⟩ trivial ⟨rfl,rfl,rfl,rfl,rfl,rfl⟩ bL aAn rfl⟩
  replace hj:j<i+1:=hj
  show Cr (upd Z i _ j) (c j)
  by_cases e:j=i
  ·subst e;rw[bN,hc];exact(hbv _ hci).1
  rw[bD e];exact hZ j oM
 replace h2:¬(i:Int)<(n:Nat):=h2
 obtain rfl:n=i:=by omega
 refine aA gT mxd ?_
 show Sd _ _ _ _ _ _
 refine cO (λ_=>true) (λg:Nat×(Nat->RatM)=>sG1 n g.1) (λg=>tB1 f n Z0 g.2) (λ_=>[]) (λg=>g.1<=n/\∀j,j<n->Cr (g.2 j) (fwT us p c g.1 j)) (λg=>n-g.1) λhM=>⟨bS hM (chg:=λg:Nat×(Nat->RatM)=>sG1 n g.1) (bls:=λg=>tB1 f n Z0 g.2) (fls:=λ_=>[]) (0,Z) ⟨aC _,hZ⟩ rfl ⟨rfl,rfl,rfl⟩ trivial ⟨rfl,rfl,rfl,rfl,rfl⟩ bL aAn rfl,λ⟨i,Z⟩ ⟨hi,hZ⟩=>aA gT mxd ⟨λh2=>aA gT mxd ?_,λh2=>aA gT mxd ?_⟩⟩
 all_goals
  replace hi:i<=n:=hi
  replace hZ:∀j,j<n->Cr (Z j) (fwT us p c i j):=hZ
 ·replace h2:(i:Int)<(n:Nat):=h2
  have hin:i<n:=by omega
  have lU:=h.U.ln
  have eU:=h.U.row i hin
  obtain⟨hu,hui,hul⟩:=hP.us i hin
  have hpi:=hP.p i hin
  have ln1:(f.U.d.l.getD i cP).l.length=(us i).length+1:=by rw[eU.ln,hu];simp
  refine⟨i,⟨rfl,show i<f.U.d.l.length by omega⟩,?_⟩
  obtain⟨row,hrow⟩:∃row,row=f.U.d.l.getD i cP:=⟨_,rfl⟩
  have hlen:(f.U.d.l.getD i cP).l.length-1=(us i).length:=by omega
  have hsz:(((f.U.d.l.getD i cP).l.length-1:Nat):Int)=((us i).length:Nat):=by rw[hlen]
  have hsl:CV.r (slA (f.U.d.l.getD i cP).A (f.U.d.l.getD i cP).c 1 4) ((f.U.d.l.getD i cP).l.length-1) ((f.U.d.l.getD i cP).c-1) 4 (λj=>((f.U.d.l.getD i cP).l.getD (j+1) default).C)= .r (slA row.A row.c 1 4) (us i).length (row.c-1) 4 λj=>(row.l.getD (j+1) default).C:=by rw[hlen,hrow]
  rw[<-hrow] at eU
  have hfb:=hfr i oM
  have hzz:zT B F (i+1)<=Y:=by rw[hY];exact aEc hin
  have hz0:zT B F (i+1)=2*zT B F i+2*F+1:=rfl
  have e2:=eU.e 0 (by rw[hu];simp)
  rw[show(Up i).getD 0 default=((i:Int),p i) by rw[hu];rfl] at e2
  have hpr:Rq (row.l.getD 0 default).v (p i) F:=Cr.rq e2.2 (hpb i hin)
  obtain⟨yi,hyi⟩:∃yi,yi=fwT us p c i i/p i:=⟨_,rfl⟩
  have hyb:rb yi (zT B F i+F):=by rw[hyi];exact aIo (hfb i hin) (hpb i hin) (aG h1B (aEc (aC i)))
  refine⟨.seq ((List.range 16).map λi=>(i,i==15)),by kernel_rfl,i,⟨rfl,hin,fD hin⟩,_,kT hin,0,⟨rfl,show 0<(f.U.d.l.getD i cP).l.length by omega⟩,[],aOn (Z i) ((f.U.d.l.getD i cP).l.getD 0 default).v ((Cr.rq (hZ i hin) (hfb i hin)).le oM) (by rw[<-hrow];exact hpr.le) hpi,rfl,rfl,rfl,λg hg=>?_⟩
  replace hg:Cr g yi:=by rw[hyi];exact hg
  refine⟨i,⟨rfl,hin,fD hin⟩,_,iA hin,1,⟨rfl,show 1<=(f.U.d.l.getD i cP).l.length by omega⟩,?_⟩
  show Sd _ _ _ _ _ _
  refine cO (λ_=>true) (λg:Nat×(Nat->RatM)=>sG2 n i (slA row.A row.c 1 4) (row.c-1) (us i).length row g.1) (λg=>tB1 f n Z0 g.2) (λ_=>[]) (λg=>g.1<=(us i).length/\∀j,j<n->Cr (g.2 j) (aJe us p c i g.1 j)) (λg=>(us i).length-g.1) λhM2=>⟨bS hM2 (chg:=λg:Nat×(Nat->RatM)=>sG2 n i (slA row.A row.c 1 4) (row.c-1) (us i).length row g.1) (bls:=λg=>tB1 f n Z0 g.2) (fls:=λ_=>[]) (0,upd Z i g) ⟨aC _,λj hj=>?_⟩ rfl ⟨rfl,rfl,rfl⟩ trivial ⟨rfl,hsl,hsz,rfl,rfl,rfl,rfl,rfl,rfl⟩ bL aAn rfl,λ⟨t,Z'⟩ ⟨ht,hZ'⟩=>aA gT mxd ⟨λh3=>aA gT mxd ?_,λh3=>aA gT mxd ?_⟩⟩
  ·show Cr (upd Z i g j) (if j=i then _ else fwT us p c i j-0*_)
   by_cases e:j=i
   ·subst e;rw[bN,if_pos rfl,<-hyi];exact hg
   rw[bD e,if_neg e,cY,wI];exact hZ j hj
  all_goals
   replace ht:t<=(us i).length:=ht
   replace hZ':∀j,j<n->Cr (Z' j) (aJe us p c i t j):=hZ'
  ·replace h3:(t:Int)<((us i).length:Nat):=h3
   have htl:t<(us i).length:=by omega
   have e0:=hui _ (fX htl)
   have er:=eU.e (t+1) (by rw[hu];simp;omega)
   rw[show(Up i).getD (t+1) default=(us i).getD t default by rw[hu];rfl] at er
   obtain⟨j0,hj0⟩:∃j0:Nat,((us i).getD t default).1=(j0:Nat):=⟨((us i).getD t default).1.toNat,by omega⟩
   have hij:i<j0:=by omega
   have hjn:j0<n:=by omega
   have hix0:(row.l.getD (t+1) default).ix=(j0:Nat):=er.1.trans hj0
   have hev:rb ((us i).getD t default).2 F:=(hua i hin).2 _ (fX htl)
   have hb0:=aTc (B:=B) (p:=p) (c:=c) (t:=t) h1 hin hjn (hpb i hin) (hua i hin).1 (hua i hin).2 hfb h1B
   have hii:aJe us p c i t i=yi:=by rw[hyi];exact if_pos rfl
   have hzi:=hZ' i hin
   rw[hii] at hzi
   have hk:=aTe (Z' j0) (row.l.getD (t+1) default).v (Z' i) (hZ' j0 hjn) (hb0.le oM) ((Cr.rq er.2 hev).le) ((Cr.rq hzi hyb).le oM) ((fI hev hyb).le oM)
   refine⟨t,⟨rfl,htl⟩,.seq ((List.range 17).map λi=>(i,i==16)),by kernel_rfl,j0,⟨hix0,hjn,fD hjn⟩,_,kT hjn,i,⟨rfl,hin,fD hin⟩,_,kT hin,[],hk,rfl,rfl,rfl,λg hg=>⟨j0,⟨hix0,hjn,fD hjn⟩,_,iA hjn,(t+1:Nat),wi,bS hM2 (chg:=λg:Nat×(Nat->RatM)=>sG2 n i (slA row.A row.c 1 4) (row.c-1) (us i).length row g.1) (bls:=λg=>tB1 f n Z0 g.2) (fls:=λ_=>[]) (t+1,upd Z' j0 g) ⟨⟨htl,λj hj=>?_⟩,show(us i).length-(t+1)<(us i).length-t by omega⟩ rfl ⟨rfl,rfl,rfl⟩ trivial ⟨rfl,rfl,rfl,rfl,rfl,rfl,rfl,rfl,rfl⟩ bL aAn rfl⟩⟩
   show Cr (upd Z' j0 g j) (if j=i then _ else fwT us p c i j-Vm.get ((us i).take (t+1)) (j:Nat)*_)
   rw[aTb htl hj0]
   by_cases e:j=j0
   ·subst e
    rw[bN,if_neg oM,if_pos rfl]
    have e3:aJe us p c i t j-((us i).getD t default).2*yi=fwT us p c i j-(Vm.get ((us i).take t) (j:Nat)+((us i).getD t default).2)*(fwT us p c i i/p i):=by
     unfold aJe
     rw[if_neg oM,hyi];grind
    rw[<-e3];exact hg
   rw[bD e,if_neg e,bM];exact hZ' j hj
  replace h3:¬(t:Int)<((us i).length:Nat):=h3
  obtain rfl:t=(us i).length:=by omega
  refine⟨(i+1:Nat),wi,bS hM (chg:=λg:Nat×(Nat->RatM)=>sG1 n g.1) (bls:=λg=>tB1 f n Z0 g.2) (fls:=λ_=>[]) (i+1,Z') ⟨⟨hin,λj hj=>?_⟩,show n-(i+1)<n-i by omega⟩ rfl ⟨rfl,rfl,rfl⟩ trivial ⟨rfl,rfl,rfl,rfl,rfl⟩ bL aAn rfl⟩
  have:=hZ' j hj
  unfold aJe at this
  rwa [cZ] at this
 replace h2:¬(i:Int)<(n:Nat):=h2
 obtain rfl:n=i:=by omega
 obtain⟨y,hy⟩:∃y,y=fwT us p c n:=⟨_,rfl⟩
 rw[<-hy] at hZ
 have hyb:∀j,j<n->rb (y j) Y:=by rw[hy,hY];exact hfr n (aJ n)
 have hbr:=bEm (n:=n) (lo:=lo) (y:=y) (B:=Y) h1 hla hyb
 refine aA gT mxd ⟨n,⟨rfl,rfl,by show 56*n<=_;omega,by simp only[maxLen];omega⟩,?_⟩
 show Sd _ _ _ _ _ _
 refine gK tSd 3 (rtC n λ_=>default) rfl lT.1 lT.2 ?_
 refine cO (λ_=>true) (λg:Nat×(Nat->RatM)×(Nat->RatM)=>sG3 n g.1) (λg=>tB2 f n Z0 g.2.1 g.2.2) (λ_=>[]) (λg=>g.1<=n/\(∀j,j<n->Cr (g.2.1 j) (bkT lo n y g.1 j))/\∀j,n-g.1<=j->j<n->Cr (g.2.2 (rw j)) (bkT lo n y n j)) (λg=>n-g.1) λhM=>⟨bS hM (chg:=λg:Nat×(Nat->RatM)×(Nat->RatM)=>sG3 n g.1) (bls:=λg=>tB2 f n Z0 g.2.1 g.2.2) (fls:=λ_=>[]) (0,Z,λ_=>default) ⟨aC _,hZ,λj h4 h5=>absurd h4 (by show ¬n-0<=j;omega)⟩ rfl ⟨rfl,rfl,rfl,rfl⟩ trivial ⟨rfl,rfl,rfl,rfl,rfl,rfl⟩ bL aJf rfl,λ⟨k,Z,X⟩ ⟨hk,hZ,hX⟩=>aA gT mxd ⟨λh2=>aA gT mxd ?_,λh2=>aA gT mxd ?_⟩⟩
 all_goals
  replace hk:k<=n:=hk
  replace hZ:∀j,j<n->Cr (Z j) (bkT lo n y k j):=hZ
  replace hX:∀j,n-k<=j->j<n->Cr (X (rw j)) (bkT lo n y n j):=hX
 ·replace h2:(k:Int)<(n:Nat):=h2
  have hkn:k<n:=by omega
  obtain⟨i,hi⟩:∃i,i=n-1-k:=⟨_,rfl⟩
  have hin:i<n:=by omega
  have hri:=h.o.rlt i hin
  have hix:f.R.l.getD i 0=(rw i:Nat):=by rw[h.R];exact xM hin
  have lL:=h.L.ln
  have eL:=h.L.row i hin
  obtain⟨hl,hvl⟩:=hP.lo i hin
  have ln1:(f.L.d.l.getD i cP).l.length=(lo i).length+1:=by rw[eL.ln,hl];simp
  have a1:((n-1:Nat):Int)=IntKind.i64.wrap ((n:Nat)-1):=wi oM
  have a2:(i:Int)=IntKind.i64.wrap (((n-1:Nat):Int)-(k:Nat)):=wi oM
  have hll:=jY hvl
  refine⟨(n-1:Nat),a1,(i:Nat),a2,i,⟨rfl,show i<f.L.d.l.length by omega⟩,((lo i).length:Nat),wi (by show(((lo i).length:Nat):Int)=(((f.L.d.l.getD i cP).l.length:Nat):Int)-1/\_<=(((f.L.d.l.getD i cP).l.length:Nat):Int)-1/\(((f.L.d.l.getD i cP).l.length:Nat):Int)-1<=_;omega),(lo i).length,⟨rfl,show(lo i).length<=(f.L.d.l.getD i cP).l.length by omega⟩,?_⟩
  obtain⟨row,hrow⟩:∃row,row=f.L.d.l.getD i cP:=⟨_,rfl⟩
  rw[<-hrow] at eL ln1
  have hbb:=hbr k oM
  have hzz:zT Y F (k+1)<=4398046511104:=aG (aEc hkn) (by rw[hY];exact hB)
  have hz0:zT Y F (k+1)=2*zT Y F k+2*F+1:=rfl
  show Sd _ _ _ _ _ _
  refine cO (λ_=>true) (λg:Nat×(Nat->RatM)=>sG4 n k i row.A row.c (lo i).length row g.1) (λg=>tB2 f n Z0 g.2 X) (λ_=>[]) (λg=>g.1<=(lo i).length/\∀j,j<n->Cr (g.2 j) (aEp lo n y k g.1 j)) (λg=>(lo i).length-g.1) λhM2=>⟨bS hM2 (chg:=λg:Nat×(Nat->RatM)=>sG4 n k i row.A row.c (lo i).length row g.1) (bls:=λg=>tB2 f n Z0 g.2 X) (fls:=λ_=>[]) (0,Z) ⟨aC _,λj hj=>?_⟩ rfl ⟨rfl,rfl,rfl,rfl⟩ trivial ?_ bL aJf rfl,λ⟨t,Z'⟩ ⟨ht,hZ'⟩=>aA gT mxd ⟨λh3=>aA gT mxd ?_,λh3=>aA gT mxd ?_⟩⟩
  ·show Cr (Z j) (bkT lo n y k j-0*_)
   rw[cY,wI];exact hZ j hj
  ·exact⟨rfl,by rw[hrow];rfl,rfl,rfl,rfl,rfl,rfl,rfl,rfl,rfl⟩
  all_goals
   replace ht:t<=(lo i).length:=ht
   replace hZ':∀j,j<n->Cr (Z' j) (aEp lo n y k t j):=hZ'
  ·replace h3:(t:Int)<((lo i).length:Nat):=h3
   have htl:t<(lo i).length:=by omega
   have e0:=hvl.2 _ (fX htl)
   have er:=eL.e t (by rw[hl];simp;omega)
   rw[show(Lw i).getD t default=(lo i).getD t default by rw[hl,aO,bJ htl,aO]] at er
   obtain⟨j0,hj0⟩:∃j0:Nat,((lo i).getD t default).1=(j0:Nat):=⟨((lo i).getD t default).1.toNat,by omega⟩
   have hji:j0<i:=by omega
   have hjn:j0<n:=by omega
   have hix0:(row.l.getD t default).ix=(j0:Nat):=er.1.trans hj0
   have hev:rb ((lo i).getD t default).2 F:=(hla i hin).2 _ (fX htl)
   have hb0:=aTd (B:=Y) (lo:=lo) (y:=y) (t:=t) h1 hkn hjn (by rw[<-hi];exact(hla i hin).1) (by rw[<-hi];exact(hla i hin).2) hbb
   have hii:aEp lo n y k t i=bkT lo n y k i:=by
    unfold aEp
    rw[<-hi,get_none (a:=(lo i).take t) λe he h4=>by
     have:=(hvl.2 e (dA he)).2.1
     omega,cY,wI]
   have hzi:=hZ' i hin
   rw[hii] at hzi
   have hyi:=hbb i hin
   have hk':=aTe (Z' j0) (row.l.getD t default).v (Z' i) (hZ' j0 hjn) (hb0.le oM) ((Cr.rq er.2 hev).le) ((Cr.rq hzi hyi).le oM) ((fI hev hyi).le oM)
   refine⟨t,⟨rfl,htl⟩,.seq ((List.range 17).map λi=>(i,i==16)),by kernel_rfl,j0,⟨hix0,hjn,fD hjn⟩,_,kT hjn,i,⟨rfl,hin,fD hin⟩,_,kT hin,[],hk',rfl,rfl,rfl,λg hg=>⟨j0,⟨hix0,hjn,fD hjn⟩,_,iA hjn,(t+1:Nat),wi,bS hM2 (chg:=λg:Nat×(Nat->RatM)=>sG4 n k i row.A row.c (lo i).length row g.1) (bls:=λg=>tB2 f n Z0 g.2 X) (fls:=λ_=>[]) (t+1,upd Z' j0 g) ⟨⟨htl,λj hj=>?_⟩,show(lo i).length-(t+1)<(lo i).length-t by omega⟩ rfl ⟨rfl,rfl,rfl,rfl⟩ trivial ⟨rfl,rfl,rfl,rfl,rfl,rfl,rfl,rfl,rfl,rfl⟩ bL aJf rfl⟩⟩
   show Cr (upd Z' j0 g j) (bkT lo n y k j-Vm.get ((lo (n-1-k)).take (t+1)) (j:Nat)*_)
   rw[<-hi,aTb htl hj0]
   by_cases e:j=j0
   ·subst e
    rw[bN,if_pos rfl]
    have e3:aEp lo n y k t j-((lo i).getD t default).2*bkT lo n y k i=bkT lo n y k j-(Vm.get ((lo i).take t) (j:Nat)+((lo i).getD t default).2)*bkT lo n y k i:=by
     unfold aEp
     rw[<-hi];grind
    rw[<-e3];exact hg
   rw[bD e,if_neg e,bM,hi];exact hZ' j hj
  replace h3:¬(t:Int)<((lo i).length:Nat):=h3
  obtain rfl:t=(lo i).length:=by omega
  have hZ1:∀j,j<n->Cr (Z' j) (bkT lo n y (k+1) j):=λj hj=>by
   have:=hZ' j hj
   unfold aEp at this
   rw[<-hi,cZ,hi] at this
   exact this
  have hst:bkT lo n y (k+1) i=bkT lo n y n i:=by
   have:=aPp hP (y:=y) (j:=i) (k:=k+1) hin (d:=n-(k+1)) oM oM
   rw[show k+1+(n-(k+1))=n by omega] at this
   exact this.symm
  refine aA gT mxd ?_
  refine⟨.seq ((List.range 12).map λi=>(i,i==11)),by kernel_rfl,i,⟨rfl,show i<f.R.l.length by omega⟩,i,⟨rfl,hin,fD hin⟩,_,kT hin,rw i,⟨hix,hri,fD hri⟩,_,iA hri,(k+1:Nat),wi,bS hM (chg:=λg:Nat×(Nat->RatM)×(Nat->RatM)=>sG3 n g.1) (bls:=λg=>tB2 f n Z0 g.2.1 g.2.2) (fls:=λ_=>[]) (k+1,Z',upd X (rw i) (Z' i)) ⟨⟨hkn,hZ1,λj h4 h5=>?_⟩,show n-(k+1)<n-k by omega⟩ rfl ⟨rfl,rfl,rfl,rfl⟩ trivial ⟨rfl,rfl,rfl,rfl,rfl,rfl⟩ bL aJf rfl⟩
  replace h4:n-(k+1)<=j:=h4
  show Cr (upd X (rw i) (Z' i) (rw j)) (bkT lo n y n j)
  by_cases e:j=i
  ·subst e;rw[bN,<-hst];exact hZ1 j hin
  have e2:rw j≠rw i:=λe2=>e (h.o.rinj j i h5 hin e2)
  rw[bD e2]
  exact hX j oM h5
 replace h2:¬(k:Int)<(n:Nat):=h2
 obtain rfl:n=k:=by omega
 obtain⟨xv,hxv⟩:∃xv:Nat->Rat,∀j,j<n->xv (rw j)=bkT lo n y n j:=aPi h.o.rlt h.o.rinj _
 show Sd _ _ _ _ _ _
 refine aRg tSd 1 3 rfl rfl bL bL rfl ⟨_,swl eD,_,swl eD,_,swl eD,bL,aA gT mxd ⟨(X,xv),⟨h.o.solT hP λi hi=>?_,λr hr=>?_⟩,fB ⟨rfl,rfl⟩ ⟨rfl,rfl⟩ bL (aB (bT eD) (aB (bT eD) aY)) rfl (cLf eD eD)⟩⟩
 ·show xv (rw i)=_
  rw[hxv i hi,hy,hc]
 obtain⟨j,hj,rfl⟩:=oD h.o.rlt h.o.rinj r hr
 show Cr (X (rw j)) (xv (rw j))/\rb (xv (rw j)) _
 rw[hxv j hj]
 exact⟨hX j oM hj,by rw[<-hY];exact hbr _ (aJ _) j hj⟩
structure MuR (p:ProgM) (q:PrQ) (b:BasM) (By:Nat) (ps:List Rat):Prop where
 ln:ps.length=p.r.l.length
 y0:∀i,i<p.r.l.length->b.r.l.getD i 0=2->lQ ps i=0
 d:∀j,j<p.c.l.length->b.c.l.getD j 0=2->cA (λi=>lQ ps i*Vm.get (q.M i) (j:Nat)) p.r.l.length=q.k j
 rb:rbL ps By
abbrev bEn (x:CorM) (p:ProgM) (X:Nat->RatM):BL:=[(113,0,x.C),(42,0,p.C),(62,3,rtC p.r.l.length X)]
theorem aTf {x:CorM} {p:ProgM} {X:Nat->RatM}:scB 3 (bEn x p X):=aB rfl (aB rfl (aB (bT eD) aY))
abbrev bEo (x:CorM) (p:ProgM) (X Z:Nat->RatM):BL:=bEn x p X++[(62,3,rtC x.c.l.length Z)]
theorem aTg {x:CorM} {p:ProgM} {X Z:Nat->RatM}:scB 4 (bEo x p X Z):=aB rfl (aB rfl (aB (bT eD) (aB (bT eD) aY)))
abbrev bKr (x:CorM) (p:ProgM) (X Z W:Nat->RatM):BL:=bEo x p X Z++[(62,3,rtC x.c.l.length W)]
theorem aTh {x:CorM} {p:ProgM} {X Z W:Nat->RatM}:scB 5 (bKr x p X Z W):=aB rfl (aB rfl (aB (bT eD) (aB (bT eD) (aB (bT eD) aY))))
abbrev bWe (p:ProgM) (k:Nat):List (Nat×DV):=[(20,.c (iC k)),(19,.c (iC (p.r.l.length:Nat))),(2,.c (.p 0 0)),(3,.c (.p 1 0)),(5,.c (.s 2 p.r.l.length))]
abbrev bWf (x:CorM) (p:ProgM) (k:Nat):List (Nat×DV):=[(35,.c (iC k)),(33,.c (cM x.c)),(34,.c (iC (x.c.l.length:Nat))),(2,.c (.p 0 0)),(3,.c (.p 1 0)),(5,.c (.s 2 p.r.l.length)),(7,.c (.s 3 x.c.l.length))]
abbrev bWg (x:CorM) (p:ProgM) (k:Nat):List (Nat×DV):=[(60,.c (iC k)),(58,.c (cM x.r)),(59,.c (iC (x.r.l.length:Nat))),(5,.c (.s 2 p.r.l.length)),(10,.c (.s 4 x.c.l.length))]
abbrev bWh:FuncId:=72
theorem cLg:Ent Tryz.prog bWh:=aW func72 rfl kR
theorem cLh:Tryz.prog.funcs[bWh]? =some Tryz.f72:=func72
theorem cFg (x:CorM) (p:ProgM) (b:BasM) {q:PrQ} {B:Nat} {rw cl:Nat->Nat} {Lw Up:Nat->List En} (h:PrV p q B) (hc:PrC p q) (hk:∀j,j<p.c.l.length->rb (q.k j) B) (hI:CorI p q b (bd B (brL b p.r.l.length).length) x rw cl Lw Up) (hS:zT (zT B (bd B (brL b p.r.l.length).length) (brL b p.r.l.length).length) (bd B (brL b p.r.l.length).length) (brL b p.r.l.length).length<=4398046511104):Ctr Tryz.prog bWh [] [.a x.C,.a p.C] [] (λg:Sl RatM×List Rat=>⟨.c (fY g.1),[],Rl g.1.l g.2/\MuR p q b (1+zT (zT B (bd B (brL b p.r.l.length).length) (brL b p.r.l.length).length) (bd B (brL b p.r.l.length).length) (brL b p.r.l.length).length) g.2⟩):=by
 obtain⟨m,hm⟩:∃m,m=(brL b p.r.l.length).length:=⟨_,rfl⟩
 obtain⟨F,hF⟩:∃F,F=bd B m:=⟨_,rfl⟩
 obtain⟨Y,hY⟩:∃Y,Y=zT (zT B F m) F m:=⟨_,rfl⟩
 rw[<-hm,<-hF,<-hY] at hS ⊢
 have hIf:=hI.f
 rw[<-hm,<-hF] at hIf
 have hpc:=h.c
 have hpr:=h.r
 have hBB:=h.hB
 have h1:=h.h1
 have hbok:=hI.v.ok
 have hxr:x.r.l.length=m:=by rw[hI.r,hm]
 have hxc:x.c.l.length=m:=by rw[hI.c,hI.v.n,hm]
 obtain⟨e1,e2⟩:=bEh b p.c.l.length
 obtain⟨f1,f2⟩:=bEi b p.r.l.length
 have hml:m<=p.r.l.length:=by rw[hm];exact jQ
 have hkap:∀l,l<x.c.l.length->x.c.l.getD l 0=(atN (bcL b p.c.l.length) l:Nat)/\atN (bcL b p.c.l.length) l<p.c.l.length/\b.c.l.getD (atN (bcL b p.c.l.length) l) 0=2:=λl hl=>by
  have hl':l<(bcL b p.c.l.length).length:=by rw[<-hI.c];exact hl
  exact⟨by rw[hI.c];exact e2 l hl',e1.lt l hl',e1.mem l hl'⟩
 have hrho:∀l,l<x.r.l.length->x.r.l.getD l 0=(atN (brL b p.r.l.length) l:Nat)/\atN (brL b p.r.l.length) l<p.r.l.length/\b.r.l.getD (atN (brL b p.r.l.length) l) 0≠2:=λl hl=>by
  have hl':l<(brL b p.r.l.length).length:=by rw[<-hI.r];exact hl
  exact⟨by rw[hI.r];exact f2 l hl',f1.lt l hl',f1.mem l hl'⟩
 have hrinj:∀l l',l<x.r.l.length->l'<x.r.l.length->atN (brL b p.r.l.length) l=atN (brL b p.r.l.length) l'->l=l':=λl l' hl hl' he=>f1.inj (by rw[<-hI.r];exact hl) (by rw[<-hI.r];exact hl') he
 refine aX gT cLg cLh rfl rfl rfl bL aS (aA gT mxd ⟨p.r.l.length,⟨rfl,rfl,by show 56*_<=_;omega,by simp only[maxLen];omega⟩,?_⟩)
 show Sd _ _ _ _ _ _
 refine gK tSd 2 (rtC p.r.l.length λ_=>default) rfl lT.1 lT.2 ?_
 refine cO (λ_=>true) (λg:Nat×(Nat->RatM)=>bWe p g.1) (λg=>bEn x p g.2) (λ_=>[]) (λg=>g.1<=p.r.l.length/\∀j,j<g.1->Cr (g.2 j) 0) (λg=>p.r.l.length-g.1) λhM=>⟨bS hM (chg:=λg:Nat×(Nat->RatM)=>bWe p g.1) (bls:=λg=>bEn x p g.2) (fls:=λ_=>[]) (0,λ_=>default) ⟨aC _,λj hj=>absurd hj (aD _)⟩ rfl ⟨rfl,rfl,rfl⟩ trivial ⟨rfl,rfl,rfl,rfl,rfl⟩ bL aTf rfl,λ⟨k,X⟩ ⟨hk1,hX⟩=>aA gT mxd ⟨λh2=>aA gT mxd ?_,λh2=>aA gT mxd ?_⟩⟩
 all_goals
  replace hk1:k<=p.r.l.length:=hk1
  replace hX:∀j,j<k->Cr (X j) 0:=hX
 ·replace h2:(k:Int)<(p.r.l.length:Nat):=h2
  have hkn:k<p.r.l.length:=by omega
  exact⟨[],sD (z:=0) dC,rfl,rfl,rfl,λg hg=>⟨k,⟨rfl,hkn,fD hkn⟩,_,iA hkn,(k+1:Nat),wi,bS hM (chg:=λg:Nat×(Nat->RatM)=>bWe p g.1) (bls:=λg=>bEn x p g.2) (fls:=λ_=>[]) (k+1,upd X k g) ⟨⟨hkn,λj hj=>by
   show Cr (upd X k g j) 0
   by_cases e:j=k
   ·rw[e,bN];exact hg
   rw[bD e];exact hX j (by have:j<k+1:=hj;omega)⟩,show p.r.l.length-(k+1)<p.r.l.length-k by omega⟩ rfl ⟨rfl,rfl,rfl⟩ trivial ⟨rfl,rfl,rfl,rfl,rfl⟩ bL aTf rfl⟩⟩
 replace h2:¬(k:Int)<(p.r.l.length:Nat):=h2
 obtain rfl:k=p.r.l.length:=by omega
 refine aA gT mxd ⟨x.c.l.length,⟨rfl,rfl,by show 56*_<=_;omega,by simp only[maxLen];omega⟩,?_⟩
 show Sd _ _ _ _ _ _
 refine gK tSd 3 (rtC x.c.l.length λ_=>default) rfl lT.1 lT.2 ?_
 refine cO (λ_=>true) (λg:Nat×(Nat->RatM)=>bWf x p g.1) (λg=>bEo x p X g.2) (λ_=>[]) (λg=>g.1<=x.c.l.length/\∀j,j<g.1->Cr (g.2 j) (q.k (atN (bcL b p.c.l.length) j))) (λg=>x.c.l.length-g.1) λhM=>⟨bS hM (chg:=λg:Nat×(Nat->RatM)=>bWf x p g.1) (bls:=λg=>bEo x p X g.2) (fls:=λ_=>[]) (0,λ_=>default) ⟨aC _,λj hj=>absurd hj (aD _)⟩ rfl ⟨rfl,rfl,rfl,rfl⟩ trivial ⟨rfl,rfl,rfl,rfl,rfl,rfl,rfl⟩ bL aTg rfl,λ⟨k,Z⟩ ⟨hk1,hZ⟩=>aA gT mxd ⟨λh3=>aA gT mxd ?_,λh3=>aA gT mxd ?_⟩⟩
 all_goals
  replace hk1:k<=x.c.l.length:=hk1
  replace hZ:∀j,j<k->Cr (Z j) (q.k (atN (bcL b p.c.l.length) j)):=hZ
 ·replace h3:(k:Int)<(x.c.l.length:Nat):=h3
  have hkn:k<x.c.l.length:=by omega
  obtain⟨c1,c2,c3⟩:=hkap k hkn
  refine⟨k,⟨rfl,hkn⟩,atN (bcL b p.c.l.length) k,⟨c1,c2⟩,k,⟨rfl,hkn,fD hkn⟩,_,iA hkn,(k+1:Nat),wi,bS hM (chg:=λg:Nat×(Nat->RatM)=>bWf x p g.1) (bls:=λg=>bEo x p X g.2) (fls:=λ_=>[]) (k+1,upd Z k (p.c.l.getD (atN (bcL b p.c.l.length) k) default).k) ⟨⟨hkn,λj hj=>?_⟩,show x.c.l.length-(k+1)<x.c.l.length-k by omega⟩ rfl ⟨rfl,rfl,rfl,rfl⟩ trivial ⟨rfl,rfl,rfl,rfl,rfl,rfl,rfl⟩ bL aTg rfl⟩
  show Cr (upd Z k _ j) _
  by_cases e:j=k
  ·rw[e,bN];exact hc.k _ c2
  rw[bD e];exact hZ j (by have:j<k+1:=hj;omega)
 replace h3:¬(k:Int)<(x.c.l.length:Nat):=h3
 obtain rfl:k=x.c.l.length:=by omega
 have hIf':LuG x.f (zJ p q b) x.c.l.length rw cl Lw Up F:=by rw[hxc];exact hIf
 have hS':zT (zT B F x.c.l.length) F x.c.l.length<=4398046511104:=by rw[hxc,<-hY];exact hS
 have hF1:1<=F:=by rw[hF];exact xV h1 m
 have hFF:F<=4398046511104:=by
  rcases bX m with e|e
  ·rw[hF,e];exact hBB
  have a1:F<=zT (zT B F m) F 1:=by show F<=2*_+2*F+1;omega
  have a2:zT (zT B F m) F 1<=Y:=by rw[hY];exact aEc e
  omega
 have hct:=bKq x.f Z (bv:=λk=>q.k (atN (bcL b p.c.l.length) k)) (B:=B) hIf' hF1 oM (λk hk'=>⟨hZ k hk',hk _ (hkap k hk').2.1⟩) h1 hFF hS'
 refine aA gT mxd ⟨none,[3],hct,rfl,rfl,rfl,λ⟨W,w⟩ ⟨hT,hW⟩=>?_⟩
 replace hT:TEq (enM (zJ p q b)) x.c.l.length (λk=>q.k (atN (bcL b p.c.l.length) k)) w:=hT
 replace hW:∀r,r<x.c.l.length->Cr (W r) (w r)/\rb (w r) (zT (zT B F x.c.l.length) F x.c.l.length):=hW
 rw[hxc,<-hY,<-hxc] at hW
 show Sd _ _ _ _ _ _
 refine cO (λ_=>true) (λg:Nat×(Nat->RatM)=>bWg x p g.1) (λg=>bKr x p g.2 Z W) (λ_=>[]) (λg=>g.1<=x.r.l.length/\(∀l,l<g.1->Cr (g.2 (atN (brL b p.r.l.length) l)) (w l))/\∀j,j<p.r.l.length->(∀l,l<g.1->atN (brL b p.r.l.length) l≠j)->Cr (g.2 j) 0) (λg=>x.r.l.length-g.1) λhM3=>⟨bS hM3 (chg:=λg:Nat×(Nat->RatM)=>bWg x p g.1) (bls:=λg=>bKr x p g.2 Z W) (fls:=λ_=>[]) (0,X) ⟨aC _,λl hl=>absurd hl (aD _),λj hj _=>hX j hj⟩ rfl ⟨rfl,rfl,rfl,rfl,rfl⟩ trivial ⟨rfl,rfl,rfl,rfl,rfl⟩ bL aTh rfl,λ⟨k,X'⟩ ⟨hk2,hb1,hb2⟩=>aA gT mxd ⟨λh6=>aA gT mxd ?_,λh6=>aA gT mxd ?_⟩⟩
 all_goals
  replace hk2:k<=x.r.l.length:=hk2
  replace hb1:∀l,l<k->Cr (X' (atN (brL b p.r.l.length) l)) (w l):=hb1
  replace hb2:∀j,j<p.r.l.length->(∀l,l<k->atN (brL b p.r.l.length) l≠j)->Cr (X' j) 0:=hb2
 ·replace h6:(k:Int)<(x.r.l.length:Nat):=h6
  have hkn:k<x.r.l.length:=by omega
  have hkc:k<x.c.l.length:=by omega
  obtain⟨c1,c2,c3⟩:=hrho k hkn
  refine⟨k,⟨rfl,hkn⟩,k,⟨rfl,hkc,fD hkc⟩,_,kT hkc,atN (brL b p.r.l.length) k,⟨c1,c2,fD c2⟩,_,iA c2,(k+1:Nat),wi,bS hM3 (chg:=λg:Nat×(Nat->RatM)=>bWg x p g.1) (bls:=λg=>bKr x p g.2 Z W) (fls:=λ_=>[]) (k+1,upd X' (atN (brL b p.r.l.length) k) (W k)) ⟨⟨hkn,λl hl=>?_,λj hj hno=>?_⟩,show x.r.l.length-(k+1)<x.r.l.length-k by omega⟩ rfl ⟨rfl,rfl,rfl,rfl,rfl⟩ trivial ⟨rfl,rfl,rfl,rfl,rfl⟩ bL aTh rfl⟩
  ·show Cr (upd X' _ _ (atN (brL b p.r.l.length) l)) (w l)
   by_cases e:l=k
   ·rw[e,bN];exact(hW k hkc).1
   have hl':l<k+1:=hl
   rw[bD λhe=>e (hrinj l k oM hkn he)];exact hb1 l oM
  show Cr (upd X' _ _ j) _
  rw[bD λhe=>hno k (bE k) he.symm];exact hb2 j hj λl hl=>hno l (eA hl)
 replace h6:¬(k:Int)<(x.r.l.length:Nat):=h6
 obtain rfl:k=x.r.l.length:=by omega
 obtain⟨ys,hys⟩:∃ys:Nat->Rat,ys=spr x.r.l.length (atN (brL b p.r.l.length)) w:=⟨_,rfl⟩
 have hyb:∀l,l<x.r.l.length->ys (atN (brL b p.r.l.length) l)=w l:=λl hl=>by
  rw[hys];exact aJb hl λl' hl' he=>hrinj l' l hl' hl he
 have hyn:∀i,b.r.l.getD i 0=2->ys i=0:=λi hs=>by
  rw[hys];exact aJc λl hl he=>absurd hs (by rw[<-he];exact(hrho l hl).2.2)
 have hqs:∀j,j<p.r.l.length->lQ ((List.range p.r.l.length).map ys) j=ys j:=λj hj=>by unfold lQ;simp[hj]
 have hex:∀i,i<p.r.l.length->b.r.l.getD i 0≠2->∃l,l<x.r.l.length/\atN (brL b p.r.l.length) l=i:=λi hi hs=>by rw[hI.r];exact f1.all i hi hs
 have hcr:∀j,j<p.r.l.length->Cr (X' j) (ys j):=λj hj=>by
  by_cases hs:b.r.l.getD j 0=2
  ·rw[hyn j hs];exact hb2 j hj λl hl he=>(hrho l hl).2.2 (by rw[he];exact hs)
  obtain⟨l,hl,rfl⟩:=hex j hj hs
  rw[hyb l hl];exact hb1 l hl
 refine yR 5 2 (λj=>((qX X' p.r.l.length).getD j default).C) rfl rfl (λj hj=>aBl j hj) (by rw[oW (P:=λj=>(X' j).C) (e:=3) λ_ _=>rfl]) bL eD bL λA2 c2 _ _=>⟨(λc hc=>fC (eD c hc)),(λc hc=>fC (eD c hc)),aA gT mxd ⟨(⟨A2,c2,qX X' p.r.l.length⟩,(List.range p.r.l.length).map ys),⟨⟨?_,λj hj=>?_⟩,⟨by simp,λi hi hs=>?_,λj hj hs=>?_,λq hq=>?_⟩⟩,aM aIs rfl trivial⟩⟩
 ·show(qX X' p.r.l.length).length=_
  rw[zC];simp
 ·have hj':j<p.r.l.length:=by simpa using hj
  show Cr ((qX X' p.r.l.length).getD j default) (lQ ((List.range p.r.l.length).map ys) j)
  rw[aDl hj',hqs j hj'];exact hcr j hj'
 ·rw[hqs i hi];exact hyn i hs
 ·obtain⟨l,hl,hlj⟩:=e1.all j hj hs
  have hl':l<x.c.l.length:=by rw[hI.c];exact hl
  have s1:=hT l hl'
  have s2:cA (λr=>w r*enM (zJ p q b) r l) x.c.l.length=cA (λr=>Vm.get (q.M (atN (brL b p.r.l.length) r)) (j:Nat)*w r) x.r.l.length:=by
   rw[hxr,<-hxc]
   refine bP λr hr=>?_
   have hr':r<(brL b p.r.l.length).length:=by rw[<-hI.r];omega
   show w r*Vm.get (iV _ _ (q.M (atN (brL b p.r.l.length) r))) _=_
   rw[rD (λk l hkl hl=>e1.mono k l hkl hl) (h.v _ (f1.lt r hr')).2.1 hl,show atN (bcL b p.c.l.length) l=j from hlj];grind
  rw[s2,<-aBw (c:=p.r.l.length) (f:=λi=>Vm.get (q.M i) (j:Nat)) λl hl=>(hrho l hl).2.1,<-hys] at s1
  replace s1:=s1.trans (show q.k (atN (bcL b p.c.l.length) l)=q.k j by rw[show atN (bcL b p.c.l.length) l=j from hlj])
  rw[<-s1]
  refine bP λi hi=>?_
  show lQ ((List.range p.r.l.length).map ys) i*_=_
  rw[hqs i hi];grind
 obtain⟨i,hi,rfl⟩:=cB.1 hq
 have hi':=cQ.1 hi
 by_cases hs:b.r.l.getD i 0=2
 ·rw[hyn i hs];exact yZ oM
 obtain⟨l,hl,rfl⟩:=hex i hi' hs
 rw[hyb l hl];exact(hW l oM).2.le oM
structure PrG (p:ProgM) (q:PrQ) (B:Nat):Prop where
 v:PrV p q B
 c:PrC p q
 k:∀j,j<p.c.l.length->rb (q.k j) B
 rl:p.r.l.length<=12
 cl:p.c.l.length<=100
 bB:B<=1000
 f:bd B (p.r.l.length-1)<=4398046511104
 s:∀m,m<=p.c.l.length->yb (zb (2+B+p.c.l.length*(B+B+1)) (bd B m) m) (bd B m) m<=1000000000
 t:∀m,m<=p.c.l.length->zT (zT B (bd B m) m) (bd B m) m<=1000000000
theorem BVal.m {p:ProgM} {q:PrQ} {b:BasM} (h:BVal p q b):(brL b p.r.l.length).length<=p.c.l.length:=by rw[<-h.n];exact jQ
abbrev PtL (p:ProgM) (q:PrQ) (b:BasM) (x:Sl RatM) (qs:List Rat):Prop:=Rl x.l qs/\PtR p q b 1000001000 qs
abbrev MuL (p:ProgM) (q:PrQ) (b:BasM) (y:Sl RatM) (ps:List Rat):Prop:=Rl y.l ps/\MuR p q b 1000001000 ps
abbrev bKs:FuncId:=23
theorem cLi:Ent Tryz.prog bKs:=aW func23 rfl kR
theorem cLj:Tryz.prog.funcs[bKs]? =some Tryz.f23:=func23
theorem bEp (p:ProgM) (b:BasM) {q:PrQ} {B:Nat} (h:PrG p q B) (hb:BVal p q b):Ctr Tryz.prog bKs [] [.a p.C,.a b.C] [] (λg:Sl RatM×List Rat=>⟨.t [.c (fY g.1),.c (iC 0)],[],PtL p q b g.1 g.2⟩):=by
 refine aX gT cLi cLj rfl rfl rfl bL aS (aA gT mxd ⟨[],bMy p b h.v h.rl h.f,rfl,rfl,rfl,λg hg=>?_⟩)
 cases g with
 |none=>exact absurd hb hg
 |some g=>
  obtain⟨x,rw',cl,Lw,Up⟩:=g
  have hs:=h.s _ hb.m
  have hB:=h.bB
  exact⟨λhh=>absurd rfl hh,λ_=>aA gT mxd ⟨[],cFe x p b h.v h.c hg oM,rfl,rfl,rfl,λg hg=>⟨g,⟨hg.1,hg.2.ln,hg.2.x0,hg.2.ti,λr hr=>(hg.2.rb r hr).le oM⟩,aM ⟨rfl,rfl⟩ rfl trivial⟩⟩⟩
abbrev bWi:FuncId:=24
theorem cLk:Ent Tryz.prog bWi:=aW func24 rfl kR
theorem cLl:Tryz.prog.funcs[bWi]? =some Tryz.f24:=func24
theorem bNa (p:ProgM) (b:BasM) {q:PrQ} {B:Nat} (h:PrG p q B) (hb:BVal p q b):Ctr Tryz.prog bWi [] [.a p.C,.a b.C] [] (λg:Sl RatM×List Rat=>⟨.t [.c (fY g.1),.c (iC 0)],[],MuL p q b g.1 g.2⟩):=by
 refine aX gT cLk cLl rfl rfl rfl bL aS (aA gT mxd ⟨[],bMy p b h.v h.rl h.f,rfl,rfl,rfl,λg hg=>?_⟩)
 cases g with
 |none=>exact absurd hb hg
 |some g=>
  obtain⟨x,rw',cl,Lw,Up⟩:=g
  have hs:=h.t _ hb.m
  exact⟨λhh=>absurd rfl hh,λ_=>aA gT mxd ⟨[],cFg x p b h.v h.c h.k hg oM,rfl,rfl,rfl,λg hg=>⟨g,⟨hg.1,hg.2.ln,hg.2.y0,hg.2.d,λr hr=>(hg.2.rb r hr).le oM⟩,aM ⟨rfl,rfl⟩ rfl trivial⟩⟩⟩
theorem PrG.px {p:ProgM} {q:PrQ} {B:Nat} (h:PrG p q B) {b:BasM} {x:Sl RatM} {qs:List Rat} (hx:PtL p q b x qs):PrX p q x qs B 1000001000:=⟨h.v,hx.1,hx.2.ln,hx.2.rb,by
 have h1:=h.cl
 have h2:=h.bB
 have h3:(p.c.l.length+1)*(B+1000001000+1)<=101*(B+1000001000+1):=aQ _ oM
 omega⟩
theorem PrG.py {p:ProgM} {q:PrQ} {B:Nat} (h:PrG p q B) {b:BasM} {y:Sl RatM} {ps:List Rat} (hy:MuL p q b y ps):PrY p q y ps B 1000001000:=⟨h.v,hy.1,hy.2.ln,hy.2.rb,by decide⟩
theorem PrG.pz {p:ProgM} {q:PrQ} {B:Nat} (h:PrG p q B) {b:BasM} {y:Sl RatM} {ps:List Rat} (hy:MuL p q b y ps):PrZ p q y ps B 1000001000:=⟨h.py hy,h.k,by
 have h1:=h.rl
 have h2:=h.bB
 have h3:(p.r.l.length+1)*(1000001000+B+1)<=13*(1000001000+B+1):=aQ _ oM
 omega⟩
abbrev bKt:FuncId:=38
theorem cLm:Ent Tryz.prog bKt:=aW func38 rfl kR
theorem cLn:Tryz.prog.funcs[bKt]? =some Tryz.f38:=func38
theorem bNb (p:ProgM) (b:BasM) {q:PrQ} {B:Nat} (h:PrG p q B) (hb:BVal p q b):Ctr Tryz.prog bKt [] [.a p.C,.a b.C] [] (λg:Sl RatM×List Rat=>⟨pC (Fsb p q g.2),[],PtL p q b g.1 g.2⟩):=by
 refine aX gT cLm cLn rfl rfl rfl bL aS (aA gT mxd ⟨[],bEp p b h hb,rfl,rfl,rfl,λg hg=>?_⟩)
 exact⟨λ_=>⟨[],bMl p g.1 (h.px hg),rfl,rfl,rfl,λ_ _=>⟨g,hg,aM mS rfl trivial⟩⟩,λhh=>absurd rfl hh⟩
def Dbr (s:Int) (d:Rat):Prop:=(sgn d.num<0/\s≠1)\/(0<sgn d.num/\s≠0)
def DuR (p:ProgM) (q:PrQ) (b:BasM) (ps:List Rat) (n:Nat):Prop:=∀j,j<n->¬(b.c.l.getD j 0=2\/Fxd (p.c.l.getD j default) (q.l j) (q.u j))->¬Dbr (b.c.l.getD j 0) (gN q ps p.r.l.length j)
abbrev duB (p:ProgM) (b:BasM):BL:=[(42,0,p.C),(45,0,b.C)]
theorem aJg {p:ProgM} {b:BasM}:scB 2 (duB p b):=aB rfl (aB rfl aY)
abbrev duG (p:ProgM) (d:Sl RatM) (k:Nat):List (Nat×DV):=[(35,.c (iC k)),(33,.c (wG p.c)),(34,.c (iC (p.c.l.length:Nat))),(2,.c (.p 0 0)),(3,.c (.p 1 0)),(7,.c (fY d))]
abbrev bKu:FuncId:=39
theorem cLo:Ent Tryz.prog bKu:=aW func39 rfl kR
theorem cLp:Tryz.prog.funcs[bKu]? =some Tryz.f39:=func39
theorem bNc (p:ProgM) (b:BasM) {q:PrQ} {B:Nat} (h:PrG p q B) (hb:BVal p q b):Ctr Tryz.prog bKu [] [.a p.C,.a b.C] [] (λg:Sl RatM×List Rat=>⟨pC (Sgd p g.2/\DuR p q b g.2 p.c.l.length),[],MuL p q b g.1 g.2⟩):=by
 have hpc:=h.v.c
 have hBB:=h.v.hB
 refine aX gT cLo cLp rfl rfl rfl bL aS (aA gT mxd ⟨[],bNa p b h hb,rfl,rfl,rfl,λg hg=>?_⟩)
 refine⟨λhh=>absurd rfl hh,λ_=>⟨[],bMm p g.1 (h.py hg),rfl,rfl,rfl,λ_ _=>⟨λh2=>aA gT mxd ?_,λh2=>aA gT mxd ⟨[],bMn p g.1 (h.pz hg),rfl,rfl,rfl,λd ⟨hd1,hd2⟩=>?_⟩⟩⟩⟩
 ·replace h2:¬Sgd p g.2:=h2
  exact⟨g,hg,aM (ff λhh=>h2 hh.1) rfl trivial⟩
 replace h2:Sgd p g.2:=dZ.1 h2
 replace hd1:d.l.length=p.c.l.length:=hd1
 replace hd2:∀j,j<p.c.l.length->Cr (d.l.getD j default) (gN q g.2 p.r.l.length j):=hd2
 have hbc:=hb.ok.c
 show Sd _ _ _ _ _ _
 refine cO (λ_=>true) (λk:Nat=>duG p d k) (λ_=>duB p b) (λ_=>[]) (λk=>k<=p.c.l.length/\DuR p q b g.2 k) (λk=>p.c.l.length-k) λhM=>⟨bS hM (chg:=λk:Nat=>duG p d k) (bls:=λ_=>duB p b) (fls:=λ_=>[]) 0 ⟨aC _,λj hj=>absurd hj (aD _)⟩ rfl ⟨rfl,rfl⟩ trivial ⟨rfl,rfl,rfl,rfl,rfl,rfl⟩ bL aJg rfl,λk ⟨hk,hD⟩=>aA gT mxd ⟨λh3=>aA gT mxd ?_,λh3=>aA gT mxd ?_⟩⟩
 ·replace h3:(k:Int)<(p.c.l.length:Nat):=h3
  have hkn:k<p.c.l.length:=by omega
  have hcol:=h.v.rd.c k hkn
  have nxt:(¬(b.c.l.getD k 0=2\/Fxd (p.c.l.getD k default) (q.l k) (q.u k))->¬Dbr (b.c.l.getD k 0) (gN q g.2 p.r.l.length k))->DuR p q b g.2 (k+1):=λhh j hj=>by
   rcases cX (dJ hj) with e|e
   ·exact hD j e
   subst e;exact hh
  have go:DuR p q b g.2 (k+1)->True:=λ_=>trivial
  have hz:=(h.pz hg).rd hkn p.r.l.length (aJ _)
  have hzb:=(h.pz hg).b
  have hzq:Rq (d.l.getD k default) (gN q g.2 p.r.l.length k) 4398046511104:=Cr.rq (hd2 k hkn) (hz.le (by rw[dG] at hzb;omega))
  refine⟨k,⟨rfl,hkn⟩,k,⟨rfl,by omega⟩,⟨λhq=>?_,λhq=>⟨[],cDi (p.c.l.getD k default) hcol hBB,rfl,rfl,rfl,λ_ _=>⟨λh4=>aA gT mxd ?_,λh4=>aA gT mxd ⟨k,⟨rfl,by omega⟩,[],jF (d.l.getD k default) hzq,rfl,rfl,rfl,λ_ _=>?_⟩⟩⟩⟩⟩
  ·refine⟨(k+1:Nat),wi,bS hM (chg:=λk:Nat=>duG p d k) (bls:=λ_=>duB p b) (fls:=λ_=>[]) (k+1) ⟨⟨hkn,?_⟩,show p.c.l.length-(k+1)<p.c.l.length-k by omega⟩ rfl ⟨rfl,rfl⟩ trivial ⟨rfl,rfl,rfl,rfl,rfl,rfl⟩ bL aJg rfl⟩
   exact nxt λhh=>absurd (.inl hq) hh
  ·refine⟨(k+1:Nat),wi,bS hM (chg:=λk:Nat=>duG p d k) (bls:=λ_=>duB p b) (fls:=λ_=>[]) (k+1) ⟨⟨hkn,?_⟩,show p.c.l.length-(k+1)<p.c.l.length-k by omega⟩ rfl ⟨rfl,rfl⟩ trivial ⟨rfl,rfl,rfl,rfl,rfl,rfl⟩ bL aJg rfl⟩
   exact nxt λhh=>absurd (.inr h4) hh
  refine⟨k,λ_=>⟨rfl,by omega⟩,k,λ_=>⟨rfl,by omega⟩,⟨λh5=>aA gT mxd ?_,λh5=>aA gT mxd ?_⟩⟩
  ·replace h5:Dbr (b.c.l.getD k 0) (gN q g.2 p.r.l.length k):=h5
   exact⟨g,hg,aM (ff λhh=>hh.2 k hkn (λh6=>h6.elim hq h4) h5) rfl trivial⟩
  replace h5:¬Dbr (b.c.l.getD k 0) (gN q g.2 p.r.l.length k):=h5
  refine⟨(k+1:Nat),wi,bS hM (chg:=λk:Nat=>duG p d k) (bls:=λ_=>duB p b) (fls:=λ_=>[]) (k+1) ⟨⟨hkn,?_⟩,show p.c.l.length-(k+1)<p.c.l.length-k by omega⟩ rfl ⟨rfl,rfl⟩ trivial ⟨rfl,rfl,rfl,rfl,rfl,rfl⟩ bL aJg rfl⟩
  exact nxt λ_=>h5
 replace h3:¬(k:Int)<(p.c.l.length:Nat):=h3
 obtain rfl:k=p.c.l.length:=by omega
 exact aA gT mxd ⟨g,hg,aM (tt ⟨h2,hD⟩) rfl trivial⟩
theorem _root_.Go.Vy.CtrF.cl2 {P:Program} {q:FuncId} {cl cl':List Bool} {al:List DV} {bl:BL} {fl:List Fam} {σ:Type} {R:σ->OutF} (h:CtrF P q cl al bl fl R) (hb:ClB cl' bl) (hc:∀g,(R g).C->ClB cl' (R g).bl):CtrF P q cl' al bl fl R:=⟨h.ent,hb,λρ w vals hv hD hF=>(h.run ρ w vals hv hD hF).mono λe w' ⟨v,he,g,ρ',c1,c2,c3,_,c5⟩=>⟨v,he,g,ρ',c1,c2,c3,hc g c1,c5⟩⟩
theorem aEd {P:Nat->Prop}:∀n,(nE P n).length+(nE (λi=>¬P i) n).length=n
 |0=>rfl
 |n+1=>by
  have ih:=aEd (P:=P) n
  by_cases h:P n
  ·rw[kH h,oE (P:=λi=>¬P i) (λhh=>hh h),aH];show _+1+_=_;omega
  rw[oE h,kH (P:=λi=>¬P i) h,aH];show _+(_+1)=_;omega
noncomputable def lfO (st:Sl Int) (n:Nat):List Int:=nE (rE st) n++nE (λi=>¬rE st i) n
theorem aBz {st:Sl Int} {n:Nat}:(lfO st n).length=n:=by unfold lfO;rw[aH];exact aEd n
theorem aTi {n j:Nat} {P:Nat->CV} (hj:j<n):((eJ n P).drop (j*1)).take 1=[P j]:=by
 have h1:=eZ (P:=P) hj
 rw[bU] at h1
 rw[bU,eH (by rw[eC];exact hj)]
 rw[aE (by rw[eC];exact hj)] at h1
 injection h1 with h1
 rw[h1];rfl
theorem bEq {L:List Int} {n:Nat} (h:L.length=n):L.map iC=eJ n λk=>iC (L.getD k 0):=by
 unfold eJ
 refine iW (by simp[h]) λi h1 h2=>?_
 have hi:i<L.length:=by simpa using h1
 simp[hi]
def rvI (O:List Int) (n i k:Nat):Int:=O.getD (if k<i\/n<=k+i then n-1-k else k) 0
theorem bKv {O:List Int} {n i k:Nat} (hn:O.length=n) (hi:n<=2*i+1) (hk:k<n):rvI O n i k=O.reverse.getD k 0:=by
 unfold rvI
 have e:(if k<i\/n<=k+i then n-1-k else k)=n-1-k:=by
  split
  ·rfl
  omega
 rw[e,aO,aO,List.getElem?_reverse oM,hn]
abbrev lfB (st:Sl Int) (n:Nat) (O:List Int) (i:Nat):BL:=[(38,0,[cM st]),(101,0,[.f aFn [] [(0,0)]]),(3,1,eJ n λk=>iC (rvI O n i k))]
theorem bEr {st:Sl Int} {n:Nat} {O:List Int} {i:Nat}:scB 3 (lfB st n O i):=aB rfl (aB rfl (aB (bT (aZ λ_ _=>rfl)) aY))
abbrev lfG (n i:Nat):List (Nat×DV):=[(7,.c (iC i)),(8,.c (iC ((n:Int)-1-(i:Nat)))),(6,.c (.s 2 n))]
abbrev bWj:FuncId:=61
theorem cLq:Ent Tryz.prog bWj:=aW func61 rfl kR
theorem cLr:Tryz.prog.funcs[bWj]? =some Tryz.f61:=func61
open Classical in
theorem bKw (st:Sl Int) (n:Nat) (hn:n<=4096):Ctr Tryz.prog bWj [] [.c (cM st),.c (iC n)] [] (λg:Sl Int=>⟨.c (cM g),[],g.l=(lfO st n).reverse⟩):=by
 have n1:Ctr Tryz.prog aLv [true,true] [.c (iC n),.c (.f aFn [] [(0,0)])] [(38,0,[cM st])] (λ_:Unit=>⟨.c (.s 1 (fJ (rE st) n).length),[(38,0,[cM st]),(3,1,(fJ (rE st) n).map iC)],True⟩):=(bMr (.i st) aFn n (rE st) hn λi _=>bDt st i).cl2 (ClB.cons (λ_=>rfl) λi T es l hi=>by cases hi) λ_ _=>ClB.cons (λ_=>rfl) (eI (aR.2 (cJ _)))
 have n2:Ctr Tryz.prog aLv [false,true,true] [.c (iC n),.c (.f aLx [] [(0,0)])] (KpS.t st).B (λ_:Unit=>⟨.c (.s 2 (fJ (λi=>¬rE st i) n).length),(KpS.t st).B++[(3,1,(fJ (λi=>¬rE st i) n).map iC)],True⟩):=(bMr (.t st) aLx n (λi=>¬rE st i) hn λi _=>bVf st i).cl2 (ClB.cons (λh=>by cases h) (ClB.cons (λ_=>rfl) λi T es l hi=>by cases hi)) λ_ _=>ClB.cons (λh=>by cases h) (ClB.cons (λ_=>rfl) (eI (aR.2 (cJ _))))
 have l1:(fJ (rE st) n).length<=n:=qZ n
 have l2:(fJ (λi=>¬rE st i) n).length<=n:=qZ n
 refine aX gT cLq cLr rfl rfl rfl bL aS (aA gT mxd ⟨[0],n1,rfl,rfl,rfl,λ_ _=>⟨[1,0],n2,rfl,rfl,rfl,λ_ _=>?_⟩⟩)
 have hO:(fJ (rE st) n).map iC++(fJ (λi=>¬rE st i) n).map iC=eJ n λk=>iC (rvI (lfO st n) n 0 k):=by
  rw[<-cH,sL,sL]
  exact(bEq aBz).trans (mK λk hk=>by unfold rvI;rw[if_neg oM])
 have hlen:(fJ (rE st) n).length+(fJ (λi=>¬rE st i) n).length=n:=by rw[sL,sL];exact aEd n
 refine⟨⟨by rw[aU,bU],by rw[aU,bU],by simp only[maxLen];omega,by show(_+_)*8<=_;omega,λc hc=>(aV.1 hc).elim (λh=>fC (cJ _ c h)) λh=>fC (cJ _ c h)⟩,(λc hc=>fC (cJ _ c hc)),(n:Int)-1,wi (h:=⟨by show(n:Int)-1=(((fJ (rE st) n).length+(fJ (λi=>¬rE st i) n).length:Nat):Int)-1;rw[hlen],by show _<=(((fJ (rE st) n).length+(fJ (λi=>¬rE st i) n).length:Nat):Int)-1;omega,by show(((fJ (rE st) n).length+(fJ (λi=>¬rE st i) n).length:Nat):Int)-1<=_;omega⟩),?_⟩
 show Sd _ _ _ _ _ _
 refine cO (λ_=>true) (λi:Nat=>lfG n i) (λi=>lfB st n (lfO st n) i) (λ_=>[]) (λi=>i<=n) (λi=>n-i) λhM=>⟨bS hM (chg:=λi:Nat=>lfG n i) (bls:=λi=>lfB st n (lfO st n) i) (fls:=λ_=>[]) 0 (aC _) rfl ⟨rfl,rfl,congrArg (λl=>((3,1,l):TypeId×Nat×List CV)) hO⟩ trivial ⟨rfl,?_,hlen⟩ bL bEr rfl,λi hi=>aA gT mxd ⟨λh2=>aA gT mxd ?_,λh2=>aA gT mxd ?_⟩⟩
 ·show(n:Int)-1=(n:Int)-1-((0:Nat):Int);omega
 ·replace h2:(i:Int)<(n:Int)-1-(i:Nat):=h2
  have hin:i<n:=by omega
  obtain⟨j,hj⟩:∃j,j=n-1-i:=⟨_,rfl⟩
  have hjn:j<n:=by omega
  have hji:((n:Int)-1-(i:Nat))=(j:Nat):=by omega
  refine⟨.seq [(0,false),(1,false),(2,false),(3,false),(4,false),(5,false),(6,false),(7,false),(8,false),(9,false),(10,false),(11,false),(12,false),(13,true),(14,false),(15,true)],by kernel_rfl,j,⟨hji,hjn,dD hjn⟩,_,eZ hjn,i,⟨rfl,hin,dD hin⟩,_,eZ hin,i,⟨rfl,hin,dD hin⟩,_,iF (Q:=λk=>if k=i then iC (rvI (lfO st n) n i j) else iC (rvI (lfO st n) n i k)) hin (λk _=>rfl),j,⟨hji,hjn,dD hjn⟩,_,iF (Q:=λk=>iC (rvI (lfO st n) n (i+1) k)) hjn (λk hk=>?_),(i+1:Nat),wi,(n:Int)-1-((i+1:Nat):Int),wi (h:=⟨by show(n:Int)-1-((i+1:Nat):Int)=(n:Int)-1-(i:Nat)-1;omega,by show _<=(n:Int)-1-(i:Nat)-1;omega,by show(n:Int)-1-(i:Nat)-1<=_;omega⟩),bS hM (chg:=λi:Nat=>lfG n i) (bls:=λi=>lfB st n (lfO st n) i) (fls:=λ_=>[]) (i+1) ⟨hin,show n-(i+1)<n-i by omega⟩ rfl ⟨rfl,rfl,rfl⟩ trivial ⟨rfl,rfl,rfl⟩ bL bEr rfl⟩
  unfold rvI
  by_cases e1:k=j
  ·rw[if_pos e1,if_neg oM,if_pos oM]
   exact congrArg (λz=>iC ((lfO st n).getD z 0)) oM
  rw[if_neg e1]
  by_cases e2:k=i
  ·rw[if_pos e2,if_neg oM,if_pos oM]
   exact congrArg (λz=>iC ((lfO st n).getD z 0)) oM
  rw[if_neg e2]
  exact congrArg (λz=>iC ((lfO st n).getD z 0)) (by
   by_cases e3:k<i\/n<=k+i
   ·rw[if_pos e3,if_pos oM]
   rw[if_neg e3,if_neg oM])
 replace h2:¬(i:Int)<(n:Int)-1-(i:Nat):=h2
 show Sd _ _ _ _ _ _
 refine yR 6 2 (λj=>[iC ((lfO st n).reverse.getD j 0)]) rfl rfl (λj hj=>?_) (by rw[eC,bU]) bL (aZ λ_ _=>rfl) bL λA c _ _=>aA gT mxd ⟨⟨A,c,(lfO st n).reverse⟩,rfl,aM ?_ rfl trivial⟩
 ·rw[aTi hj,bKv aBz oM hj]
 show CV.r A n c 1 _=CV.r A ((lfO st n).reverse).length c 1 _
 rw[List.length_reverse,aBz]
theorem aEe {P Q:Nat->Prop}:∀n,(∀i,i<n->(P i↔Q i))->nE P n=nE Q n
 |0,_=>rfl
 |n+1,h=>by
  have ih:=aEe n λi hi=>h i (eA hi)
  by_cases hp:P n
  ·rw[kH hp,kH ((h n (bE n)).1 hp),ih]
  rw[oE hp,oE (λhq=>hp ((h n (bE n)).2 hq)),ih]
theorem Dep.cg {Q Q':Nat->Nat->Rat} {r c j:Nat} (h:∀i k,i<r->k<c->Q i k=Q' i k):Dep Q r c j->Dep Q' r c j:=λ⟨x,h1,h2,h3⟩=>⟨x,h1,h2,λi hi=>by rw[<-h3 i hi];exact bP λk hk=>by rw[h i k hi hk]⟩
theorem aJh {Q Q':Nat->Nat->Rat} {r c n:Nat} (h:∀i k,i<r->k<c->Q i k=Q' i k):nF Q r c n=nF Q' r c n:=aEe n λi _=>⟨λh1 h2=>h1 (Dep.cg (λi k hi hk=>(h i k hi hk).symm) h2),λh1 h2=>h1 (Dep.cg h h2)⟩
noncomputable def bdL (Q:Nat->Nat->Rat) (m:Nat) (O:List Int):List Int:=(nF Q m O.length O.length).map λz=>O.getD z.toNat 0
abbrev boB (m S T:MatM) (n k:Nat) (L O:List Int):BL:=[(24,0,m.C),(24,0,S.C),(24,0,T.C),(3,1,eJ n λj=>iC (if j<k then O.getD (atN L j) 0 else 0))]
theorem bEs {m S T:MatM} {n k:Nat} {L O:List Int}:scB 4 (boB m S T n k L O):=aB rfl (aB rfl (aB rfl (aB (bT (aZ λ_ _=>rfl)) aY)))
abbrev boG (L O:Sl Int) (k:Nat):List (Nat×DV):=[(38,.c (iC k)),(36,.c (cM L)),(37,.c (iC (L.l.length:Nat))),(13,.c (.s 3 L.l.length)),(2,.c (cM O))]
abbrev bWk:FuncId:=60
theorem cLs:Ent Tryz.prog bWk:=aW func60 rfl kR
theorem cLt:Tryz.prog.funcs[bWk]? =some Tryz.f60:=func60
theorem cFh (m:MatM) (ch or:Sl Int) {M:Nat->List En} {a b B:Nat} {ρ κ:Nat->Nat} (h:Mr m M a b B) (hb:rbM M a B) (h1:1<=B) (hB:bd B (ch.l.length*or.l.length)<=4398046511104) (ha:a<=4096) (hbn:b<=4096) (hA:SelA a b or ch ρ κ):Ctr Tryz.prog bWk [] [.a m.C,.c (cM ch),.c (cM or)] [] (λg:Sl Int=>⟨.c (cM g),[],g.l=bdL (λl i=>Vm.get (M (ρ i)) (κ l:Nat)) ch.l.length or.l⟩):=by
 have hrl:=hA.rl
 have hcl:=hA.cl
 have hBB:B<=4398046511104:=aG (nD (B:=B) (aC _)) hB
 have hok:∀k,k<or.l.length->VOk (M (ρ k)) (b:Nat):=λk hk=>(h.ok _ (hA.r k hk).2).1
 have hrS:rbM (λk=>iV κ ch.l.length (M (ρ k))) or.l.length B:=λk hk=>aIv (hb _ (hA.r k hk).2)
 refine aX gT cLs cLt rfl rfl rfl bL aS (aA gT mxd ⟨[],bVv m or ch h hb h1 hBB ha hbn hA,rfl,rfl,rfl,λS hS=>⟨[],cBp S (hS.mr hrS) hBB oM oM,rfl,rfl,rfl,λT hT=>⟨[],bEc T (hT.mr λj hj=>aIh h1 hrS λi hi=>(xG hA.m (hok i hi)).1) (λj hj=>aIh h1 hrS λi hi=>(xG hA.m (hok i hi)).1) h1 hB oM oM,rfl,rfl,rfl,λL hL=>?_⟩⟩⟩)
 replace hL:L.l=nF (λl i=>Vm.get (M (ρ i)) (κ l:Nat)) ch.l.length or.l.length or.l.length:=hL.trans (aJh λl i hl hi=>by
  show Vm.get (trM _ _ l) (i:Nat)=_
  rw[aSa hi,rD hA.m (hok i hi).1 hl])
 have hLl:L.l.length<=or.l.length:=by rw[hL];exact jQ
 have hLa:∀k,k<L.l.length->L.l.getD k 0=(atN L.l k:Nat)/\atN L.l k<or.l.length:=λk hk=>by
  obtain⟨e1,e2⟩:=fS (P:=λj=>¬Dep (λl i=>Vm.get (M (ρ i)) (κ l:Nat)) ch.l.length or.l.length j) or.l.length
  rw[hL] at hk ⊢
  exact⟨e2 k hk,e1.lt k hk⟩
 refine⟨L.l.length,⟨rfl,rfl,by show 8*_<=_;omega,by simp only[maxLen];omega⟩,?_⟩
 refine cO (λ_=>true) (λk:Nat=>boG L or k) (λk=>boB m S T L.l.length k L.l or.l) (λ_=>[]) (λk=>k<=L.l.length) (λk=>L.l.length-k) λhM=>⟨bS hM (chg:=λk:Nat=>boG L or k) (bls:=λk=>boB m S T L.l.length k L.l or.l) (fls:=λ_=>[]) 0 (aC _) rfl ⟨rfl,rfl,rfl,?_⟩ trivial ⟨rfl,rfl,rfl,rfl,rfl⟩ bL bEs rfl,λk hk=>aA gT mxd ⟨λh2=>aA gT mxd ?_,λh2=>aA gT mxd ?_⟩⟩
 ·show(3,1,List.replicate _ (iC 0))=_
  rw[zD]
  exact congrArg (λl=>((3,1,l):TypeId×Nat×List CV)) (mK λx _=>rfl)
 ·replace h2:(k:Int)<(L.l.length:Nat):=h2
  have hkn:k<L.l.length:=by omega
  obtain⟨c1,c2⟩:=hLa k hkn
  refine⟨k,⟨rfl,hkn⟩,atN L.l k,⟨c1,c2⟩,k,⟨rfl,hkn,dD hkn⟩,_,iF (Q:=λj=>iC (if j<k+1 then or.l.getD (atN L.l j) 0 else 0)) hkn (λj hj=>?_),(k+1:Nat),wi,bS hM (chg:=λk:Nat=>boG L or k) (bls:=λk=>boB m S T L.l.length k L.l or.l) (fls:=λ_=>[]) (k+1) ⟨hkn,show L.l.length-(k+1)<L.l.length-k by omega⟩ rfl ⟨rfl,rfl,rfl,rfl⟩ trivial ⟨rfl,rfl,rfl,rfl,rfl⟩ bL bEs rfl⟩
  by_cases e:j=k
  ·rw[if_pos e,if_pos oM,e]
  rw[if_neg e]
  by_cases e2:j<k
  ·rw[if_pos e2,if_pos oM]
  rw[if_neg e2,if_neg oM]
 replace h2:¬(k:Int)<(L.l.length:Nat):=h2
 obtain rfl:k=L.l.length:=by omega
 show Sd _ _ _ _ _ _
 refine yR 13 3 (λj=>[iC ((bdL (λl i=>Vm.get (M (ρ i)) (κ l:Nat)) ch.l.length or.l).getD j 0)]) rfl rfl (λj hj=>?_) (by rw[eC,bU]) bL (aZ λ_ _=>rfl) bL λA c _ _=>aA gT mxd ⟨⟨A,c,bdL (λl i=>Vm.get (M (ρ i)) (κ l:Nat)) ch.l.length or.l⟩,rfl,aM ?_ rfl trivial⟩
 ·rw[aTi hj,if_pos hj]
  unfold bdL
  rw[<-hL]
  simp[aO,hj,atN]
 show CV.r A L.l.length c 1 _=CV.r A (bdL _ _ _).length c 1 _
 rw[show(bdL (λl i=>Vm.get (M (ρ i)) (κ l:Nat)) ch.l.length or.l).length=L.l.length by unfold bdL;rw[<-hL,aU]]
theorem cFi {L:List Int} {n:Nat} (h:∀z∈L,∃k:Nat,z=(k:Nat)/\k<n) {k:Nat} (hk:k<L.length):L.getD k 0=(atN L k:Nat)/\atN L k<n:=by
 obtain⟨j,e,hj⟩:=h (L.getD k 0) (fX hk)
 unfold atN
 rw[e]
 exact⟨rfl,hj⟩
theorem aFr:∀n,nE (λ_=>True) n=(List.range n).map λk:Nat=>(k:Int)
 |0=>rfl
 |n+1=>by rw[kH trivial,aFr n,lN,cH];rfl
noncomputable abbrev wnL (p:ProgM) (b:BasM):List Int:=nE (λj=>b.c.l.getD j 0=2) (min p.c.l.length b.c.l.length)
noncomputable abbrev wnQ (p:ProgM) (q:PrQ) (b:BasM) (i k:Nat):Rat:=Vm.get (q.M i) (atN (wnL p b) k:Nat)
noncomputable abbrev iN (p:ProgM) (q:PrQ) (b:BasM):List Int:=nF (wnQ p q b) p.r.l.length (wnL p b).length (wnL p b).length
noncomputable abbrev orL (p:ProgM) (b:BasM):List Int:=(lfO b.r p.r.l.length).reverse
noncomputable abbrev ltL (p:ProgM) (q:PrQ) (b:BasM):List Int:=bdL (λl i=>wnQ p q b (atN (orL p b) i) (atN (iN p q b) l)) (iN p q b).length (orL p b)
open Classical in
noncomputable def stC (c:ColM) (l:List Int) (j:Nat):Int:=if (j<l.length/\l.getD j 0≠2)/\Pmt c (l.getD j 0) then l.getD j 0 else dfC c
structure RpR (p:ProgM) (q:PrQ) (b g:BasM):Prop where
 cl:g.c.l.length=p.c.l.length
 rl:g.r.l.length=p.r.l.length
 c2:∀k,k<(iN p q b).length->g.c.l.getD (atN (wnL p b) (atN (iN p q b) k)) 0=2
 c0:∀j,j<p.c.l.length->(∀k,k<(iN p q b).length->atN (wnL p b) (atN (iN p q b) k)≠j)->g.c.l.getD j 0=stC (p.c.l.getD j default) b.c.l j
 r0:∀k,k<(ltL p q b).length->g.r.l.getD (atN (ltL p q b) k) 0=dfR (p.r.l.getD (atN (ltL p q b) k) default).s
 r2:∀i,i<p.r.l.length->(∀k,k<(ltL p q b).length->atN (ltL p q b) k≠i)->g.r.l.getD i 0=2
theorem bKx {x:Sl Int} {n:Nat} {z:Int} (h:z∈lfO x n):∃k:Nat,z=(k:Nat)/\k<n:=by
 unfold lfO at h
 rcases aV.1 h with h|h
 all_goals
  obtain⟨k,h1,h2,_⟩:=oF.1 h
  exact⟨k,h1,h2⟩
theorem aJi {p:ProgM} {b:BasM} {k:Nat} (hk:k<(orL p b).length):(orL p b).getD k 0=(atN (orL p b) k:Nat)/\atN (orL p b) k<p.r.l.length:=cFi (λz hz=>bKx (List.mem_reverse.1 hz)) hk
theorem bKy {p:ProgM} {b:BasM}:(orL p b).length=p.r.l.length:=by rw[List.length_reverse,aBz]
theorem aEf {p:ProgM} {b:BasM} {k:Nat} (hk:k<(wnL p b).length):(wnL p b).getD k 0=(atN (wnL p b) k:Nat)/\atN (wnL p b) k<min p.c.l.length b.c.l.length/\b.c.l.getD (atN (wnL p b) k) 0=2:=by
 obtain⟨e1,e2⟩:=fS (P:=λj=>b.c.l.getD j 0=2) (min p.c.l.length b.c.l.length)
 exact⟨e2 k hk,e1.lt k hk,e1.mem k hk⟩
theorem aJj {p:ProgM} {q:PrQ} {b:BasM} {k:Nat} (hk:k<(iN p q b).length):(iN p q b).getD k 0=(atN (iN p q b) k:Nat)/\atN (iN p q b) k<(wnL p b).length:=by
 obtain⟨e1,e2⟩:=fS (P:=λj=>¬Dep (wnQ p q b) p.r.l.length (wnL p b).length j) (wnL p b).length
 exact⟨e2 k hk,e1.lt k hk⟩
theorem bEt {p:ProgM} {q:PrQ} {b:BasM} {k:Nat} (hk:k<(ltL p q b).length):(ltL p q b).getD k 0=(atN (ltL p q b) k:Nat)/\atN (ltL p q b) k<p.r.l.length:=cFi (λz hz=>by
 obtain⟨y,hy,rfl⟩:=cB.1 hz
 obtain⟨j,rfl,hj,_⟩:=oF.1 hy
 obtain⟨h1,h2⟩:=aJi (p:=p) (b:=b) (k:=j) hj
 exact⟨_,h1,h2⟩) hk
def cLu:Ord:=.joinX [] [2000,1,2002,2004,5,2006] (.alt 3 (.alt 7 (trS [2008,9,1010]) (.alt 9 (trS [7,2008,1010]) .nil)) (.alt 7 (.alt 3 (trS [2008,9,1010]) (.alt 9 (trS [3,2008,1010]) .nil)) (.alt 9 (.alt 3 (trS [7,2008,1010]) (.alt 7 (trS [3,2008,1010]) .nil)) .nil)))
abbrev sZ (p:ProgM) (b:BasM) (m:MatM) (F G:Nat->Int):BL:=[(42,0,p.C),(45,0,b.C),(45,0,[.v (.slice none 0 0),.v (.slice none 0 0)]),(24,0,m.C),(3,1,eJ p.c.l.length λj=>iC (F j)),(3,1,eJ p.r.l.length λj=>iC (G j)),(45,0,[.s 4 p.c.l.length,.s 5 p.r.l.length])]
theorem oG {p:ProgM} {b:BasM} {m:MatM} {F G:Nat->Int}:scB 7 (sZ p b m F G):=aB rfl (aB rfl (aB rfl (aB rfl (aB (bT (aZ λ_ _=>rfl)) (aB (bT (aZ λ_ _=>rfl)) (aB rfl aY))))))
abbrev aMd (W ch:Sl Int):List (Nat×DV):=[(2,.c (.p 0 0)),(3,.c (.p 1 0)),(4,.c (.p 2 0)),(9,.c (.p 3 0)),(8,.c (cM W)),(10,.c (cM ch)),(12,.c (.p 6 0))]
abbrev bEu (p:ProgM) (W ch:Sl Int) (k:Nat):List (Nat×DV):=(60,.c (iC k))::(58,.c (wG p.c))::(59,.c (iC (p.c.l.length:Nat)))::aMd W ch
noncomputable abbrev aBc (p:ProgM) (b:BasM) (k j:Nat):Int:=if j<k then stC (p.c.l.getD j default) b.c.l j else 0
theorem bEv {p:ProgM} {b:BasM} {k:Nat} {v:Int} (hv:v=stC (p.c.l.getD k default) b.c.l k) (j:Nat):(if j=k then v else aBc p b k j)=aBc p b (k+1) j:=by
 by_cases e:j=k
 ·rw[if_pos e,e,hv];exact(if_pos (bE k)).symm
 rw[if_neg e]
 show(if j<k then _ else _)=if j<k+1 then _ else _
 by_cases e2:j<k
 ·rw[if_pos e2,if_pos oM]
 rw[if_neg e2,if_neg oM]
theorem bEw {p:ProgM} {b:BasM} {k n:Nat} {v:Int} (hv:v=stC (p.c.l.getD k default) b.c.l k):((3,1,eJ n λj=>iC (if j=k then v else aBc p b k j)):TypeId×Nat×List CV)=(3,1,eJ n λj=>iC (aBc p b (k+1) j)):=congrArg (λl=>((3,1,l):TypeId×Nat×List CV)) (mK λj _=>by rw[bEv hv])
theorem aJk {n j:Nat} {F:Nat->Int} {v:Int} (h:j<n):lE (eJ n λi=>iC (F i)) (j*1) [iC v]=(eJ n λi=>iC (if i=j then v else F i))/\j*1+1<=(eJ n λi=>iC (F i)).length:=iF (Q:=λi=>iC (if i=j then v else F i)) h λi _=>by
 by_cases e:i=j
 ·rw[if_pos e,if_pos e]
 rw[if_neg e,if_neg e]
abbrev bWl (W ch:Sl Int) (k:Nat):List (Nat×DV):=(105,.c (iC k))::(103,.c (cM ch))::(104,.c (iC (ch.l.length:Nat)))::aMd W ch
abbrev bWm (p:ProgM) (W ch:Sl Int) (k:Nat):List (Nat×DV):=(120,.c (iC k))::(119,.c (iC (p.r.l.length:Nat)))::aMd W ch
abbrev bWn (W ch lt:Sl Int) (k:Nat):List (Nat×DV):=(138,.c (iC k))::(136,.c (cM lt))::(137,.c (iC (lt.l.length:Nat)))::aMd W ch
theorem bWo {Q Q':Nat->Nat->Rat} {m:Nat} {O:List Int} (h:∀i k,i<m->k<O.length->Q i k=Q' i k):bdL Q m O=bdL Q' m O:=by unfold bdL;rw[aJh h]
theorem aMe {n:Nat} {F:Nat->Int}:(eJ n λj=>iC (F j))=((List.range n).map F).map iC:=by unfold eJ;rw[mR];rfl
theorem aJl {n j:Nat} {F:Nat->Int} (hj:j<n):((List.range n).map F).getD j 0=F j:=by simp[aO,hj]
abbrev bWp (p:ProgM) (b:BasM) (m:MatM) (C R:List Int):BL:=[(42,0,p.C),(45,0,b.C),(45,0,[.v (.slice none 0 0),.v (.slice none 0 0)]),(24,0,m.C),(3,1,C.map iC),(3,1,R.map iC),(45,0,[.s 4 C.length,.s 5 R.length])]
theorem bKz {p:ProgM} {b:BasM} {m:MatM} {F G:Nat->Int}:sZ p b m F G=bWp p b m ((List.range p.c.l.length).map F) ((List.range p.r.l.length).map G):=by
 unfold sZ bWp
 rw[aMe,aMe,aU,aU,iJ,iJ]
abbrev bEx:FuncId:=18
theorem cLv:Ent Tryz.prog bEx:=aW func18 rfl kR
theorem cLw:Tryz.prog.funcs[bEx]? =some Tryz.f18:=func18
theorem bNd (p:ProgM) (b:BasM) {q:PrQ} {B:Nat} (h:PrV p q B) (hr:p.r.l.length<=12) (hc:p.c.l.length<=12) (hB:bd B (p.r.l.length*p.c.l.length)<=4398046511104):Ctr Tryz.prog bEx [] [.a p.C,.a b.C] [] (λg:BasM=>⟨.t [.a g.C,.c (iC 0)],[],RpR p q b g⟩):=by
 classical
 have hBB:B<=4398046511104:=h.hB
 have h1:=h.h1
 have hWl:(wnL p b).length<=p.c.l.length:=aG jQ (Nat.min_le_left _ _)
 have hCl:(iN p q b).length<=(wnL p b).length:=jQ
 have n2:Ctr Tryz.prog aLv [true] [.c (iC (min (p.c.l.length:Int) (b.c.l.length:Int))),(KpS.o b).V aLw] (KpS.o b).B (λg:Sl Int=>⟨.c (cM g),(KpS.o b).B,g.l=fJ (λj=>b.c.l.getD j 0=2) (min p.c.l.length b.c.l.length)⟩):=by
  have n:=bMs (.o b) aLw (min p.c.l.length b.c.l.length) (λj=>b.c.l.getD j 0=2) oM λi hi=>bVe b i oM
  rw[show((min p.c.l.length b.c.l.length:Nat):Int)=min (p.c.l.length:Int) (b.c.l.length:Int) by omega] at n
  exact n
 refine aX gT cLv cLw rfl rfl rfl bL aS (aA gT mxd ⟨[],aIq p h,rfl,rfl,rfl,λ_ _=>⟨λhh=>absurd rfl hh,λ_=>aA gT mxd ⟨[],bMs .z aSu p.r.l.length (λ_=>True) oM λi _=>bVd i,rfl,rfl,rfl,λal hal=>⟨[1],n2,rfl,rfl,rfl,λW hW=>?_⟩⟩⟩⟩)
 replace hal:al.l=(List.range p.r.l.length).map λk:Nat=>(k:Int):=by rw[<-aFr,<-sL];exact hal
 replace hW:W.l=wnL p b:=(show W.l=_ from hW).trans (sL _)
 have hall:al.l.length=p.r.l.length:=by rw[hal];simp
 have hCA:CofA p al W (λk=>k) (atN (wnL p b)):=⟨λk hk=>⟨by rw[hall] at hk;rw[hal];simp[aO,hk],by show k<_;omega⟩,λk hk=>by
  rw[hW] at hk ⊢
  have:=(aEf hk).2.1
  exact⟨(aEf hk).1,by omega⟩,λk l hkl hl=>by
  rw[hW] at hl
  exact(fS (P:=λj=>b.c.l.getD j 0=2) _).1.mono k l hkl hl,by omega,by rw[hW];omega⟩
 refine⟨[],bMp p al W h hCA,rfl,rfl,rfl,λm hm=>?_⟩
 rw[hall,hW] at hm
 replace hm:Mr m (λk=>iV (atN (wnL p b)) (wnL p b).length (q.M k)) p.r.l.length (wnL p b).length B:=hm
 have hmb:rbM (λk=>iV (atN (wnL p b)) (wnL p b).length (q.M k)) p.r.l.length B:=λk hk=>aIv (h.e k hk)
 have hmm:∀k l,k<l->l<(wnL p b).length->atN (wnL p b) k<atN (wnL p b) l:=(fS (P:=λj=>b.c.l.getD j 0=2) _).1.mono
 have hmQ:∀i k,i<p.r.l.length->k<(wnL p b).length->mQ (λk=>iV (atN (wnL p b)) (wnL p b).length (q.M k)) i k=wnQ p q b i k:=λi k hi hk=>rD hmm (h.v i hi).2.1 hk
 have hBf:bd B (p.r.l.length*(wnL p b).length)<=4398046511104:=aG (nD (cN _ hWl)) hB
 refine⟨[],bEc m hm hmb h1 hBf hr oM,rfl,rfl,rfl,λch hch=>?_⟩
 replace hch:ch.l=iN p q b:=(show ch.l=_ from hch).trans (aJh hmQ)
 refine⟨cLu,by kernel_rfl,Unit,λ_=>⟨aMd W ch++[],[],sZ p b m (λ_=>0) λ_=>0,[]⟩,λ_=>True,?_,λ_ _=>?_⟩
 ·have k1:p.c.l.length<=maxLen:=by simp only[maxLen];omega
  have k2:p.r.l.length<=maxLen:=by simp only[maxLen];omega
  have fin1:∀(sl:List (Nat×DV)),vT (λ_=>true) [] [] [] sl->AllC sl (aMd W ch)->Gt 0 ⟨sl,[],[(42,0,p.C),(45,0,b.C),(45,0,[.v (.slice none 0 0),.v (.slice none 0 0)]),(24,0,m.C),(3,1,List.replicate p.c.l.length (iC 0)),(3,1,List.replicate p.r.l.length (iC 0)),(45,0,[.s 4 p.c.l.length,.s 5 p.r.l.length])],[]⟩ (σ:=Unit) (λ_=>⟨aMd W ch++[],[],sZ p b m (λ_=>0) λ_=>0,[]⟩) λ_=>True:=λsl ht ha=>by
   refine @bS 0 _ (λ_=>true) [] (λt d ht=>by cases ht) Unit (λ_=>aMd W ch) (λ_=>sZ p b m (λ_=>0) λ_=>0) (λ_=>[]) _ () trivial ht ?_ trivial ha (aC _) oG rfl
   rw[zD,zD]
   exact⟨rfl,rfl,rfl,rfl,rfl,rfl,rfl⟩
  have e1:∀{i j:Nat} {n:Nat},(List.replicate n (iC 0)).map (swC i j)=List.replicate n (iC 0):=rpm aN rfl
  refine⟨⟨p.c.l.length,⟨rfl,rfl,by show 8*_<=_;omega,k1⟩,rfl,⟨p.r.l.length,⟨rfl,rfl,by show 8*_<=_;omega,k2⟩,rfl,rfl,?_⟩,⟨rfl,p.r.l.length,⟨rfl,rfl,by show 8*_<=_;omega,k2⟩,rfl,?_⟩⟩,⟨p.r.l.length,⟨rfl,rfl,by show 8*_<=_;omega,k2⟩,rfl,⟨p.c.l.length,⟨rfl,rfl,by show 8*_<=_;omega,k1⟩,rfl,rfl,?_⟩,⟨rfl,p.c.l.length,⟨rfl,rfl,by show 8*_<=_;omega,k1⟩,rfl,?_⟩⟩,⟨rfl,⟨p.c.l.length,⟨rfl,rfl,by show 8*_<=_;omega,k1⟩,rfl,p.r.l.length,⟨rfl,rfl,by show 8*_<=_;omega,k2⟩,rfl,?_⟩,⟨p.r.l.length,⟨rfl,rfl,by show 8*_<=_;omega,k2⟩,rfl,p.c.l.length,⟨rfl,rfl,by show 8*_<=_;omega,k1⟩,rfl,?_⟩⟩⟩
  ·exact fin1 _ (by rfl) (by exact⟨rfl,rfl,rfl,rfl,rfl,rfl,rfl⟩)
  ·exact gsw 5 6 rfl rfl bL bL rfl ⟨_,e1,_,e1,bL,fin1 _ (by rfl) (by exact⟨rfl,rfl,rfl,rfl,rfl,rfl,rfl⟩)⟩
  ·exact gsw 4 5 rfl rfl bL bL rfl ⟨_,e1,_,e1,bL,fin1 _ (by rfl) (by exact⟨rfl,rfl,rfl,rfl,rfl,rfl,rfl⟩)⟩
  ·exact gsw 4 6 rfl rfl bL bL rfl ⟨_,e1,_,e1,bL,gsw 5 6 rfl rfl bL bL rfl ⟨_,e1,_,e1,bL,fin1 _ (by rfl) (by exact⟨rfl,rfl,rfl,rfl,rfl,rfl,rfl⟩)⟩⟩
  ·exact gsw 4 5 rfl rfl bL bL rfl ⟨_,e1,_,e1,bL,gsw 5 6 rfl rfl bL bL rfl ⟨_,e1,_,e1,bL,fin1 _ (by rfl) (by exact⟨rfl,rfl,rfl,rfl,rfl,rfl,rfl⟩)⟩⟩
  exact gsw 4 6 rfl rfl bL bL rfl ⟨_,e1,_,e1,bL,fin1 _ (by rfl) (by exact⟨rfl,rfl,rfl,rfl,rfl,rfl,rfl⟩)⟩
 refine cO (λ_=>true) (λk:Nat=>bEu p W ch k) (λk=>sZ p b m (aBc p b k) λ_=>0) (λ_=>[]) (λk=>k<=p.c.l.length) (λk=>p.c.l.length-k) λhM=>⟨bS hM (chg:=λk:Nat=>bEu p W ch k) (bls:=λk=>sZ p b m (aBc p b k) λ_=>0) (fls:=λ_=>[]) 0 (aC _) rfl ⟨rfl,rfl,rfl,rfl,rfl,rfl,rfl⟩ trivial ⟨rfl,rfl,rfl,rfl,rfl,rfl,rfl,rfl,rfl,rfl⟩ bL oG rfl,λk hk=>aA gT mxd ⟨λh2=>aA gT mxd ?_,λh2=>aA gT mxd ?_⟩⟩
 ·replace h2:(k:Int)<(p.c.l.length:Nat):=h2
  have hkn:k<p.c.l.length:=by omega
  refine⟨k,⟨rfl,hkn⟩,.seq [(0,false),(1,false),(2,false),(3,false),(4,false),(5,false),(6,true)],by kernel_rfl,[],cDg (p.c.l.getD k default),rfl,rfl,rfl,λ_ _=>⟨k,⟨rfl,hkn,dD hkn⟩,_,aJk hkn,.seq [(0,false),(1,false),(2,false),(3,false),(4,false),(5,false),(6,false),(7,false),(8,false),(9,false),(10,false),(11,false),(12,false),(13,false),(14,false),(15,false),(16,false),(17,false),(18,false),(19,false),(20,true),(21,false)],by kernel_rfl,k,λh5=>⟨rfl,?_⟩,k,λh13=>⟨rfl,?_⟩,λh1=>⟨[],bMj (p.c.l.getD k default) (b.c.l.getD k 0),rfl,rfl,rfl,λ_ _=>⟨λh4=>aA gT mxd ?_,λh4=>aA gT mxd ?_⟩⟩,λh1=>?_⟩⟩
  ·replace h5:(k:Int)<(b.c.l.length:Nat):=h5
   omega
  ·replace h13:(k:Int)<(b.c.l.length:Nat)/\_:=h13
   omega
  ·replace h1:(k:Int)<(b.c.l.length:Nat)/\b.c.l.getD k 0≠2:=h1
   have hkb:k<b.c.l.length:=by omega
   have hv:b.c.l.getD k 0=stC (p.c.l.getD k default) b.c.l k:=(if_pos ⟨⟨hkb,h1.2⟩,h4⟩).symm
   exact⟨.seq [(0,false),(1,false),(2,false),(3,false),(4,false),(5,false),(6,false),(7,false),(8,false),(9,true)],by kernel_rfl,k,⟨rfl,hkb⟩,k,⟨rfl,hkn,dD hkn⟩,_,aJk hkn,(k+1:Nat),wi,bS hM (chg:=λk:Nat=>bEu p W ch k) (bls:=λk=>sZ p b m (aBc p b k) λ_=>0) (fls:=λ_=>[]) (k+1) ⟨hkn,show p.c.l.length-(k+1)<p.c.l.length-k by omega⟩ rfl ⟨rfl,rfl,rfl,rfl,(congrArg (λl=>((3,1,l):TypeId×Nat×List CV)) (mK λj _=>by rw[<-bEv hv];by_cases e:j=k<;>simp[e])),rfl,rfl⟩ trivial ⟨rfl,rfl,rfl,rfl,rfl,rfl,rfl,rfl,rfl,rfl⟩ bL oG rfl⟩
  ·have hv:dfC (p.c.l.getD k default)=stC (p.c.l.getD k default) b.c.l k:=(if_neg λhh=>h4 hh.2).symm
   exact⟨(k+1:Nat),wi,bS hM (chg:=λk:Nat=>bEu p W ch k) (bls:=λk=>sZ p b m (aBc p b k) λ_=>0) (fls:=λ_=>[]) (k+1) ⟨hkn,show p.c.l.length-(k+1)<p.c.l.length-k by omega⟩ rfl ⟨rfl,rfl,rfl,rfl,bEw hv,rfl,rfl⟩ trivial ⟨rfl,rfl,rfl,rfl,rfl,rfl,rfl,rfl,rfl,rfl⟩ bL oG rfl⟩
  replace h1:¬((k:Int)<(b.c.l.length:Nat)/\b.c.l.getD k 0≠2):=h1
  have hv:dfC (p.c.l.getD k default)=stC (p.c.l.getD k default) b.c.l k:=(if_neg λhh=>h1 ⟨by have:=hh.1.1;omega,hh.1.2⟩).symm
  exact⟨(k+1:Nat),wi,bS hM (chg:=λk:Nat=>bEu p W ch k) (bls:=λk=>sZ p b m (aBc p b k) λ_=>0) (fls:=λ_=>[]) (k+1) ⟨hkn,show p.c.l.length-(k+1)<p.c.l.length-k by omega⟩ rfl ⟨rfl,rfl,rfl,rfl,bEw hv,rfl,rfl⟩ trivial ⟨rfl,rfl,rfl,rfl,rfl,rfl,rfl,rfl,rfl,rfl⟩ bL oG rfl⟩
 replace h2:¬(k:Int)<(p.c.l.length:Nat):=h2
 obtain rfl:k=p.c.l.length:=by omega
 have hchl:ch.l.length<=12:=by rw[hch];omega
 have hCh:∀l,l<ch.l.length->ch.l.getD l 0=(atN (iN p q b) l:Nat)/\atN (iN p q b) l<W.l.length:=λl hl=>by rw[hch] at hl ⊢;rw[hW];exact aJj hl
 have hKp:∀l,l<ch.l.length->W.l.getD (atN (iN p q b) l) 0=(atN (wnL p b) (atN (iN p q b) l):Nat)/\atN (wnL p b) (atN (iN p q b) l)<p.c.l.length:=λl hl=>by
  have h3:=(hCh l hl).2
  rw[hW] at h3 ⊢
  have:=(aEf h3).2.1
  exact⟨(aEf h3).1,by omega⟩
 refine aA gT mxd ?_
 show Sd _ _ _ _ _ _
 refine cO (λ_=>true) (λg:Nat×(Nat->Int)=>bWl W ch g.1) (λg=>sZ p b m g.2 λ_=>0) (λ_=>[]) (λg=>g.1<=ch.l.length/\(∀l,l<g.1->g.2 (atN (wnL p b) (atN (iN p q b) l))=2)/\∀j,(∀l,l<g.1->atN (wnL p b) (atN (iN p q b) l)≠j)->g.2 j=aBc p b p.c.l.length j) (λg=>ch.l.length-g.1) λhM=>⟨bS hM (chg:=λg:Nat×(Nat->Int)=>bWl W ch g.1) (bls:=λg=>sZ p b m g.2 λ_=>0) (fls:=λ_=>[]) (0,aBc p b p.c.l.length) ⟨aC _,λl hl=>absurd hl (aD _),λj _=>rfl⟩ rfl ⟨rfl,rfl,rfl,rfl,rfl,rfl,rfl⟩ trivial ⟨rfl,rfl,rfl,rfl,rfl,rfl,rfl,rfl,rfl,rfl⟩ bL oG rfl,λ⟨k,F⟩ ⟨hk2,hF2,hF0⟩=>aA gT mxd ⟨λh3=>aA gT mxd ?_,λh3=>aA gT mxd ?_⟩⟩
 all_goals
  replace hk2:k<=ch.l.length:=hk2
  replace hF2:∀l,l<k->F (atN (wnL p b) (atN (iN p q b) l))=2:=hF2
  replace hF0:∀j,(∀l,l<k->atN (wnL p b) (atN (iN p q b) l)≠j)->F j=aBc p b p.c.l.length j:=hF0
 ·replace h3:(k:Int)<(ch.l.length:Nat):=h3
  have hkn:k<ch.l.length:=by omega
  obtain⟨c1,c2⟩:=hCh k hkn
  obtain⟨c3,c4⟩:=hKp k hkn
  refine⟨k,⟨rfl,hkn⟩,.seq [(0,false),(1,false),(2,false),(3,false),(4,false),(5,false),(6,false),(7,true)],by kernel_rfl,atN (iN p q b) k,⟨c1,c2⟩,atN (wnL p b) (atN (iN p q b) k),⟨c3,c4,dD c4⟩,_,aJk c4,(k+1:Nat),wi,bS hM (chg:=λg:Nat×(Nat->Int)=>bWl W ch g.1) (bls:=λg=>sZ p b m g.2 λ_=>0) (fls:=λ_=>[]) (k+1,λj=>if j=atN (wnL p b) (atN (iN p q b) k) then 2 else F j) ⟨⟨hkn,λl hl=>?_,λj hno=>?_⟩,show ch.l.length-(k+1)<ch.l.length-k by omega⟩ rfl ⟨rfl,rfl,rfl,rfl,rfl,rfl,rfl⟩ trivial ⟨rfl,rfl,rfl,rfl,rfl,rfl,rfl,rfl,rfl,rfl⟩ bL oG rfl⟩
  ·show(if _ then 2 else F _)=2
   by_cases e:atN (wnL p b) (atN (iN p q b) l)=atN (wnL p b) (atN (iN p q b) k)
   ·rw[if_pos e]
   rw[if_neg e]
   refine hF2 l ?_
   have hl':l<k+1:=hl
   by_cases e2:l=k
   ·exact absurd (by rw[e2]) e
   omega
  show(if _ then 2 else F j)=_
  rw[if_neg λe=>hno k (bE k) e.symm]
  exact hF0 j λl hl=>hno l (eA hl)
 replace h3:¬(k:Int)<(ch.l.length:Nat):=h3
 obtain rfl:k=ch.l.length:=by omega
 refine aA gT mxd ?_
 show Sd _ _ _ _ _ _
 refine cO (λ_=>true) (λk:Nat=>bWm p W ch k) (λk=>sZ p b m F λj=>if j<k then 2 else 0) (λ_=>[]) (λk=>k<=p.r.l.length) (λk=>p.r.l.length-k) λhM=>⟨bS hM (chg:=λk:Nat=>bWm p W ch k) (bls:=λk=>sZ p b m F λj=>if j<k then 2 else 0) (fls:=λ_=>[]) 0 (aC _) rfl ⟨rfl,rfl,rfl,rfl,rfl,rfl,rfl⟩ trivial ⟨rfl,rfl,rfl,rfl,rfl,rfl,rfl,rfl,rfl⟩ bL oG rfl,λk hk=>aA gT mxd ⟨λh4=>aA gT mxd ?_,λh4=>aA gT mxd ?_⟩⟩
 ·replace h4:(k:Int)<(p.r.l.length:Nat):=h4
  have hkn:k<p.r.l.length:=by omega
  refine⟨k,⟨rfl,hkn,dD hkn⟩,_,iF (Q:=λj=>iC (if j<k+1 then 2 else 0)) hkn (λj hj=>?_),(k+1:Nat),wi,bS hM (chg:=λk:Nat=>bWm p W ch k) (bls:=λk=>sZ p b m F λj=>if j<k then 2 else 0) (fls:=λ_=>[]) (k+1) ⟨hkn,show p.r.l.length-(k+1)<p.r.l.length-k by omega⟩ rfl ⟨rfl,rfl,rfl,rfl,rfl,rfl,rfl⟩ trivial ⟨rfl,rfl,rfl,rfl,rfl,rfl,rfl,rfl,rfl⟩ bL oG rfl⟩
  by_cases e:j=k
  ·rw[if_pos e,if_pos oM];rfl
  rw[if_neg e]
  show iC (if j<k then 2 else 0)=iC (if j<k+1 then 2 else 0)
  by_cases e2:j<k
  ·rw[if_pos e2,if_pos oM]
  rw[if_neg e2,if_neg oM]
 replace h4:¬(k:Int)<(p.r.l.length:Nat):=h4
 obtain rfl:k=p.r.l.length:=by omega
 refine aA gT mxd ⟨.seq [(0,false),(1,false),(2,false),(3,false),(4,false),(5,false),(6,false),(10,false),(7,false),(8,true),(9,false)],by kernel_rfl,[],bKw b.r p.r.l.length oM,rfl,rfl,rfl,λor hor=>?_⟩
 replace hor:or.l=orL p b:=hor
 have hol:or.l.length=p.r.l.length:=by rw[hor];exact bKy
 have hSA:SelA p.r.l.length (wnL p b).length or ch (atN (orL p b)) (atN (iN p q b)):=⟨λk hk=>by rw[hor] at hk ⊢;exact aJi hk,λk hk=>by rw[<-hW];exact hCh k hk,λk l hkl hl=>by
  rw[hch] at hl
  exact(fS (P:=λj=>¬Dep (wnQ p q b) p.r.l.length (wnL p b).length j) _).1.mono k l hkl hl,by omega,by rw[hch];omega⟩
 refine⟨[],cFh m ch or hm hmb h1 (aG (nD (by rw[hol,bG,hch];exact cN _ oM)) hB) oM oM hSA,rfl,rfl,rfl,λlt hlt=>?_⟩
 replace hlt:lt.l=ltL p q b:=by
  refine(show lt.l=_ from hlt).trans ?_
  rw[hor,hch]
  exact bWo λl i hl hi=>hmQ _ _ (aJi hi).2 (aJj hl).2
 have hLt:∀l,l<lt.l.length->lt.l.getD l 0=(atN (ltL p q b) l:Nat)/\atN (ltL p q b) l<p.r.l.length:=λl hl=>by rw[hlt] at hl ⊢;exact bEt hl
 have hltl:lt.l.length<=12:=by
  rw[hlt]
  unfold ltL bdL
  rw[aU]
  have:=aLz (Q:=λl i=>wnQ p q b (atN (orL p b) i) (atN (iN p q b) l)) (a:=(iN p q b).length) (b:=(orL p b).length) (k:=(orL p b).length)
  rw[<-hor,hol] at this
  rw[<-hor,hol]
  omega
 refine cO (λ_=>true) (λg:Nat×(Nat->Int)=>bWn W ch lt g.1) (λg=>sZ p b m F g.2) (λ_=>[]) (λg=>g.1<=lt.l.length/\(∀l,l<g.1->g.2 (atN (ltL p q b) l)=dfR (p.r.l.getD (atN (ltL p q b) l) default).s)/\∀i,i<p.r.l.length->(∀l,l<g.1->atN (ltL p q b) l≠i)->g.2 i=2) (λg=>lt.l.length-g.1) λhM=>⟨bS hM (chg:=λg:Nat×(Nat->Int)=>bWn W ch lt g.1) (bls:=λg=>sZ p b m F g.2) (fls:=λ_=>[]) (0,λj=>if j<p.r.l.length then 2 else 0) ⟨aC _,λl hl=>absurd hl (aD _),λi hi _=>if_pos hi⟩ rfl ⟨rfl,rfl,rfl,rfl,rfl,rfl,rfl⟩ trivial ⟨rfl,rfl,rfl,rfl,rfl,rfl,rfl,rfl,rfl,rfl⟩ bL oG rfl,λ⟨k,G⟩ ⟨hk6,hG1,hG2⟩=>aA gT mxd ⟨λh6=>aA gT mxd ?_,λh6=>aA gT mxd ?_⟩⟩
 all_goals
  replace hk6:k<=lt.l.length:=hk6
  replace hG1:∀l,l<k->G (atN (ltL p q b) l)=dfR (p.r.l.getD (atN (ltL p q b) l) default).s:=hG1
  replace hG2:∀i,i<p.r.l.length->(∀l,l<k->atN (ltL p q b) l≠i)->G i=2:=hG2
 ·replace h6:(k:Int)<(lt.l.length:Nat):=h6
  have hkn:k<lt.l.length:=by omega
  obtain⟨c1,c2⟩:=hLt k hkn
  refine⟨k,⟨rfl,hkn⟩,.seq [(0,false),(1,false),(2,false),(3,false),(4,false),(5,false),(6,false),(7,false),(8,false),(9,false),(10,true)],by kernel_rfl,atN (ltL p q b) k,⟨c1,c2⟩,[],bMk (p.r.l.getD (atN (ltL p q b) k) default),rfl,rfl,rfl,λ_ _=>⟨atN (ltL p q b) k,⟨c1,c2,dD c2⟩,_,aJk c2,(k+1:Nat),wi,bS hM (chg:=λg:Nat×(Nat->Int)=>bWn W ch lt g.1) (bls:=λg=>sZ p b m F g.2) (fls:=λ_=>[]) (k+1,λj=>if j=atN (ltL p q b) k then dfR (p.r.l.getD (atN (ltL p q b) k) default).s else G j) ⟨⟨hkn,λl hl=>?_,λi hi hno=>?_⟩,show lt.l.length-(k+1)<lt.l.length-k by omega⟩ rfl ⟨rfl,rfl,rfl,rfl,rfl,rfl,rfl⟩ trivial ⟨rfl,rfl,rfl,rfl,rfl,rfl,rfl,rfl,rfl,rfl⟩ bL oG rfl⟩⟩
  ·show(if _ then _ else G _)=_
   by_cases e:atN (ltL p q b) l=atN (ltL p q b) k
   ·rw[if_pos e,e]
   rw[if_neg e]
   refine hG1 l ?_
   have hl':l<k+1:=hl
   by_cases e2:l=k
   ·exact absurd (by rw[e2]) e
   omega
  show(if _ then _ else G i)=_
  rw[if_neg λe=>hno k (bE k) e.symm]
  exact hG2 i hi λl hl=>hno l (eA hl)
 replace h6:¬(k:Int)<(lt.l.length:Nat):=h6
 obtain rfl:k=lt.l.length:=by omega
 show Sd _ _ _ _ _ _
 rw[show sZ p b m F (lt.l.length,G).snd=bWp p b m ((List.range p.c.l.length).map F) ((List.range p.r.l.length).map G) from bKz]
 obtain⟨CL,hCL⟩:∃CL,CL=(List.range p.c.l.length).map F:=⟨_,rfl⟩
 obtain⟨RL,hRL⟩:∃RL,RL=(List.range p.r.l.length).map G:=⟨_,rfl⟩
 rw[<-hCL,<-hRL]
 refine mU tSd 5 rfl bL (cJ _) bL rfl λA a1=>⟨_,sG oC (cJ _),lI tSd 6 0 [.s 4 CL.length,cM ⟨A.map λb=>⟨b,0,none⟩,a1,RL⟩] rfl rfl rfl rfl (sC (k0:=1) rfl aLt) ?_⟩
 refine mU tSd 4 rfl bL (cJ _) bL rfl λA2 a2=>⟨_,rfl,lI tSd 6 1 [cM ⟨A2.map λb=>⟨b,0,none⟩,a2,CL⟩,cM ⟨A.map λb=>⟨b,0,none⟩,a1,RL⟩] rfl rfl rfl rfl (sC (k0:=0) rfl aLt) ?_⟩
 refine aA gT mxd ⟨⟨⟨A2.map λb=>⟨b,0,none⟩,a2,CL⟩,⟨A.map λb=>⟨b,0,none⟩,a1,RL⟩⟩,⟨by rw[hCL];simp,by rw[hRL];simp,λk hk=>?_,λj hj hno=>?_,λk hk=>?_,λi hi hno=>?_⟩,aM ⟨rfl,rfl⟩ rfl trivial⟩
 ·rw[<-hch] at hk
  show CL.getD _ 0=2
  rw[hCL,aJl (hKp k hk).2];exact hF2 k hk
 ·show CL.getD j 0=_
  rw[hCL,aJl hj,hF0 j λl hl=>hno l (by rw[<-hch];exact hl)];exact if_pos hj
 ·rw[<-hlt] at hk
  show RL.getD _ 0=_
  rw[hRL,aJl (hLt k hk).2];exact hG1 k hk
 show RL.getD i 0=2
 rw[hRL,aJl hi];exact hG2 i hi λl hl=>hno l (by rw[<-hlt];exact hl)
theorem aPx {n m:Nat} {e f:Nat->Nat} (hi:∀i j,i<n->j<n->e i=e j->i=j) (hs:∀i,i<n->∃k,k<m/\f k=e i):n<=m:=by
 have hF:Free (λk i=>if f k=e i then (1:Rat) else 0) m n:=λx hx i hin=>by
  obtain⟨k,hk,hfk⟩:=hs i hin
  have h1:cA (λj=>(if f k=e j then (1:Rat) else 0)*x j) n=0:=hx k hk
  rw[bP (g:=λj=>if j=i then x i else 0) λj hj=>by
   by_cases e1:j=i
   ·rw[if_pos e1,e1,if_pos hfk,jW]
   rw[if_neg e1,if_neg λh2=>e1 (hi j i hj hin (by rw[<-h2,hfk])),cY]] at h1
  rw[kG (m:=i) hin λj hj=>if_neg hj,if_pos rfl] at h1
  exact h1
 exact hF.le
theorem Enm.uniq {P:Nat->Prop} {n m m':Nat} {e e':Nat->Nat} (h:Enm P n m e) (h':Enm P n m' e'):m=m':=by
 have h1:m<=m':=aPx (λi j hi hj=>h.inj hi hj) λi hi=>h'.all (e i) (h.lt i hi) (h.mem i hi)
 have h2:m'<=m:=aPx (λi j hi hj=>h'.inj hi hj) λi hi=>h.all (e' i) (h'.lt i hi) (h'.mem i hi)
 omega
theorem Enm.at {P:Nat->Prop} {n m m':Nat} {e e':Nat->Nat} (h:Enm P n m e) (h':Enm P n m' e'):∀k,k<m->e k=e' k:=λk=>by
 have hm:=h.uniq h'
 induction k using Nat.strongRecOn with
 |_ k ih=>
  intro hk
  obtain⟨a,ha,hae⟩:=h'.all (e k) (h.lt k hk) (h.mem k hk)
  obtain⟨c,hc,hce⟩:=h.all (e' k) (h'.lt k oM) (h'.mem k oM)
  rcases eP a k with h1|h1|h1
  ·have h2:=ih a h1 oM
   have:=h.inj (k:=a) (l:=k) oM hk oM
   omega
  ·rw[<-hae,h1]
  rcases eP c k with h3|h3|h3
  ·have h4:=ih c h3 hc
   have:=h'.inj (k:=c) (l:=k) oM oM oM
   omega
  ·rw[<-hce,h3]
  have h5:=h'.mono k a h1 ha
  have h6:=h.mono k c h3 hc
  omega
theorem Pmt.df (c:ColM):Pmt c (dfC c):=by
 unfold dfC
 by_cases h1:c.pl
 ·rw[if_pos h1];exact .inr (.inl ⟨rfl,h1⟩)
 rw[if_neg h1]
 by_cases h2:c.pu
 ·rw[if_pos h2];exact .inr (.inr (.inl ⟨rfl,h2⟩))
 rw[if_neg h2];exact .inr (.inr (.inr ⟨rfl,h1,h2⟩))
theorem bWq (c:ColM):dfC c≠2:=by
 unfold dfC
 split
 ·decide
 split<;>decide
theorem bWr (s:Int):dfR s≠2:=by unfold dfR;split<;>decide
theorem bWs (c:ColM) (l:List Int) (j:Nat):stC c l j≠2:=by
 unfold stC
 split
 ·next h=>exact h.1.2
 exact bWq c
theorem bWt (c:ColM) (l:List Int) (j:Nat):Pmt c (stC c l j):=by
 unfold stC
 split
 ·next h=>exact h.2
 exact Pmt.df c
theorem bLa {x:Sl Int} {n k:Nat} (hk:k<n):(k:Int)∈lfO x n:=by
 unfold lfO
 by_cases h:rE x k
 ·exact aV.2 (.inl (oF.2 ⟨k,rfl,hk,h⟩))
 exact aV.2 (.inr (oF.2 ⟨k,rfl,hk,h⟩))
theorem bLb {p:ProgM} {b:BasM} {i:Nat} (hi:i<p.r.l.length):∃k,k<(orL p b).length/\atN (orL p b) k=i:=by
 obtain⟨k,hk,h2⟩:=List.getElem_of_mem (List.mem_reverse.2 (bLa (x:=b.r) hi))
 refine⟨k,hk,?_⟩
 have:=(aJi (p:=p) (b:=b) hk).1
 rw[aO,aE hk] at this
 simp only[Option.getD_some] at this
 omega
theorem bLc {L O:List Int} {k:Nat} (hk:k<L.length):atN (L.map λz=>O.getD z.toNat 0) k=atN O (atN L k):=by
 unfold atN
 simp[aO,hk]
theorem aJm {a b:List Int} (hl:a.length=b.length) (h:∀k,k<b.length->a.getD k 0=b.getD k 0):a=b:=iW hl λk h1 h2=>by
 have:=h k h2
 rw[aO,aO,aE h1,aE h2] at this
 exact this
section rep
variable {p:ProgM} {q:PrQ} {b g:BasM}
noncomputable abbrev kpN (p:ProgM) (q:PrQ) (b:BasM) (k:Nat):Nat:=atN (wnL p b) (atN (iN p q b) k)
theorem aJn:Enm (λj=>¬Dep (wnQ p q b) p.r.l.length (wnL p b).length j) (wnL p b).length (iN p q b).length (atN (iN p q b)):=(fS _).1
theorem bWu:Enm (λj=>b.c.l.getD j 0=2) (min p.c.l.length b.c.l.length) (wnL p b).length (atN (wnL p b)):=(fS _).1
noncomputable abbrev ltQ (p:ProgM) (q:PrQ) (b:BasM) (l i:Nat):Rat:=wnQ p q b (atN (orL p b) i) (atN (iN p q b) l)
noncomputable abbrev ltI (p:ProgM) (q:PrQ) (b:BasM):List Int:=nF (ltQ p q b) (iN p q b).length (orL p b).length (orL p b).length
theorem bWv:Enm (λi=>¬Dep (ltQ p q b) (iN p q b).length (orL p b).length i) (orL p b).length (ltI p q b).length (atN (ltI p q b)):=(fS _).1
theorem lt_len:(ltL p q b).length=(ltI p q b).length:=aU _
theorem cFj {k:Nat} (hk:k<(ltL p q b).length):atN (ltL p q b) k=atN (orL p b) (atN (ltI p q b) k):=by
 have hk':k<(ltI p q b).length:=by rw[<-lt_len];exact hk
 exact bLc hk'
theorem bNe:(ltL p q b).length=(iN p q b).length/\Free (λk l=>Vm.get (q.M (atN (ltL p q b) k)) (kpN p q b l:Nat)) (iN p q b).length (iN p q b).length:=by
 have hf:=(aJn (p:=p) (q:=q) (b:=b)).free
 have hf2:Free (λi l=>ltQ p q b l i) (orL p b).length (iN p q b).length:=λx hx=>hf x λi hi=>by
  obtain⟨k,hk,rfl⟩:=bLb (p:=p) (b:=b) hi
  exact hx k hk
 obtain⟨h1,h2⟩:=bWv.square hf2
 have h3:(ltL p q b).length=(iN p q b).length:=lt_len.trans h1
 refine⟨h3,?_⟩
 rw[h1] at h2
 intro x hx
 refine h2 x λk hk=>?_
 rw[<-hx k hk]
 exact bP λl _=>by
  show Vm.get (q.M (atN (orL p b) (atN (ltI p q b) k))) _*_=Vm.get (q.M (atN (ltL p q b) k)) _*_
  rw[cFj oM]
theorem RpR.col (h:RpR p q b g) {j:Nat} (hj:j<p.c.l.length):(∃k,k<(iN p q b).length/\kpN p q b k=j/\g.c.l.getD j 0=2)\/(g.c.l.getD j 0=stC (p.c.l.getD j default) b.c.l j):=by
 by_cases hh:∃k,k<(iN p q b).length/\kpN p q b k=j
 ·obtain⟨k,hk,rfl⟩:=hh
  exact .inl ⟨k,hk,rfl,h.c2 k hk⟩
 exact .inr (h.c0 j hj λk hk e=>hh ⟨k,hk,e⟩)
theorem RpR.row (h:RpR p q b g) {i:Nat} (hi:i<p.r.l.length):(∃k,k<(ltL p q b).length/\atN (ltL p q b) k=i/\g.r.l.getD i 0=dfR (p.r.l.getD i default).s)\/(g.r.l.getD i 0=2):=by
 by_cases hh:∃k,k<(ltL p q b).length/\atN (ltL p q b) k=i
 ·obtain⟨k,hk,rfl⟩:=hh
  exact .inl ⟨k,hk,rfl,h.r0 k hk⟩
 exact .inr (h.r2 i hi λk hk e=>hh ⟨k,hk,e⟩)
theorem cFk {k:Nat} (hk:k<(iN p q b).length):kpN p q b k<p.c.l.length/\kpN p q b k<b.c.l.length/\b.c.l.getD (kpN p q b k) 0=2:=by
 have h1:=(aJj hk).2
 have h2:=(aEf h1).2
 exact⟨bI h2.1 (Nat.min_le_left _ _),bI h2.1 (Nat.min_le_right _ _),h2.2⟩
theorem RpR.ce (h:RpR p q b g):Enm (λj=>g.c.l.getD j 0=2) p.c.l.length (iN p q b).length (kpN p q b):=⟨λk hk=>(cFk hk).1,λk l hkl hl=>bWu.mono _ _ (aJn.mono k l hkl hl) (aJn.lt l hl),λk hk=>h.c2 k hk,λj hj h2=>by
 rcases h.col hj with ⟨k,hk,e,_⟩|h3
 ·exact⟨k,hk,e⟩
 exact absurd (h3.symm.trans h2) (bWs _ _ _)⟩
theorem RpR.val (h:RpR p q b g) {B:Nat} (hp:PrV p q B):BVal p q g:=by
 have ec:=(fS (P:=λj=>g.c.l.getD j 0=2) p.c.l.length).1
 have er:=(fS (P:=λi=>g.r.l.getD i 0≠2) p.r.l.length).1
 have hc:(iN p q b).length=(bcL g p.c.l.length).length:=h.ce.uniq ec
 have hat:=h.ce.at ec
 obtain⟨hl,hF⟩:=bNe (p:=p) (q:=q) (b:=b)
 have hex:∀k,k<(ltL p q b).length->∃k',k'<(brL g p.r.l.length).length/\atN (brL g p.r.l.length) k'=atN (ltL p q b) k:=λk hk=>er.all _ (bEt hk).2 (by rw[h.r0 k hk];exact bWr _)
 have hbr:(brL g p.r.l.length).length<=(ltL p q b).length:=aPx (f:=atN (ltL p q b)) (λi j hi hj=>er.inj hi hj) λi hi=>by
  rcases h.row (er.lt i hi) with ⟨k,hk,e,_⟩|h3
  ·exact⟨k,hk,e⟩
  exact absurd h3 (er.mem i hi)
 have hF2:Free (λk l=>Vm.get (q.M (atN (brL g p.r.l.length) k)) (kpN p q b l:Nat)) (brL g p.r.l.length).length (iN p q b).length:=λx hx=>hF x λk hk=>by
  obtain⟨k',hk',e⟩:=hex k oM
  have h3:cA (λj=>Vm.get (q.M (atN (brL g p.r.l.length) k')) (kpN p q b j:Nat)*x j) (iN p q b).length=0:=hx k' hk'
  rw[e] at h3
  exact h3
 have hn:(iN p q b).length=(brL g p.r.l.length).length:=by have:=hF2.le;omega
 refine⟨⟨h.cl,h.rl,λj hj=>?_,λi hi=>?_⟩,by omega,λ⟨x,⟨i,hi,hxi⟩,hk⟩=>hxi (hF2 x (λk hk'=>?_) i oM)⟩
 ·rcases h.col hj with ⟨k,hk,e,h2⟩|h3
  ·exact .inl h2
  rw[h3];exact bWt _ _ _
 ·rcases h.row hi with ⟨k,hk,e,h2⟩|h3
  ·exact .inr h2
  exact .inl h3
 rw[<-hk k hk',hn]
 unfold dtn
 refine bP λl hl=>?_
 show Vm.get (q.M (atN (brL g p.r.l.length) k)) (kpN p q b l:Nat)*x l=Vm.get (iV _ _ (q.M (atN (brL g p.r.l.length) k))) (l:Nat)*x l
 have hl2:l<(bcL g p.c.l.length).length:=by omega
 rw[rD (λk l hkl hl=>ec.mono k l hkl hl) (hp.v _ (er.lt k hk')).2.1 hl2,hat l oM]
end rep
abbrev smB (a b:BasM):BL:=[(45,0,a.C),(45,0,b.C)]
theorem aJo {a b:BasM}:scB 2 (smB a b):=aB rfl (aB rfl aY)
abbrev smG (v k:Nat):List (Nat×DV):=[(v,.c (iC k)),(2,.c (.p 0 0)),(3,.c (.p 1 0))]
abbrev aTj:FuncId:=21
theorem bNf:Ent Tryz.prog aTj:=aW func21 rfl kR
theorem cFl:Tryz.prog.funcs[aTj]? =some Tryz.f21:=func21
theorem cFm (a b:BasM) (h1:a.c.l.length<=4096) (h2:a.r.l.length<=4096):Ctr Tryz.prog aTj [] [.a a.C,.a b.C] [] (λ_:Unit=>⟨pC (a.c.l=b.c.l/\a.r.l=b.r.l),[],True⟩):=by
 refine aX gT bNf cFl rfl rfl rfl bL aS (aA gT mxd ⟨λh3=>aA gT mxd ?_,λh3=>aA gT mxd ?_⟩)
 ·replace h3:((a.c.l.length:Nat):Int)≠(b.c.l.length:Nat)\/((a.r.l.length:Nat):Int)≠(b.r.l.length:Nat):=h3
  exact⟨(),trivial,aM (ff λhh=>by rw[hh.1,hh.2] at h3;omega) rfl trivial⟩
 replace h3:¬(((a.c.l.length:Nat):Int)≠(b.c.l.length:Nat)\/((a.r.l.length:Nat):Int)≠(b.r.l.length:Nat)):=h3
 have hc:a.c.l.length=b.c.l.length:=by omega
 have hr:a.r.l.length=b.r.l.length:=by omega
 refine cO (λ_=>true) (λk:Nat=>smG 5 k) (λ_=>smB a b) (λ_=>[]) (λk=>k<=b.c.l.length/\∀i,i<k->a.c.l.getD i 0=b.c.l.getD i 0) (λk=>b.c.l.length-k) λhM=>⟨bS hM (chg:=λk:Nat=>smG 5 k) (bls:=λ_=>smB a b) (fls:=λ_=>[]) 0 ⟨aC _,λi hi=>absurd hi (aD _)⟩ rfl ⟨rfl,rfl⟩ trivial ⟨rfl,rfl,rfl⟩ bL aJo rfl,λk ⟨hk,hw⟩=>aA gT mxd ⟨λh4=>aA gT mxd ?_,λh4=>aA gT mxd ?_⟩⟩
 ·replace h4:(k:Int)<(a.c.l.length:Nat):=h4
  have hka:k<a.c.l.length:=by omega
  have hkb:k<b.c.l.length:=by omega
  refine⟨.seq [(0,false),(1,false),(2,false),(3,false),(4,false),(5,false),(6,false),(7,false),(8,false),(9,false),(10,false)],by kernel_rfl,k,⟨rfl,hka⟩,k,⟨rfl,hkb⟩,λh5=>aA gT mxd ?_,λh5=>aA gT mxd ?_⟩
  ·replace h5:a.c.l.getD k 0≠b.c.l.getD k 0:=h5
   exact⟨(),trivial,aM (ff λhh=>h5 (by rw[hh.1])) rfl trivial⟩
  replace h5:¬a.c.l.getD k 0≠b.c.l.getD k 0:=h5
  exact⟨(k+1:Nat),wi,bS hM (chg:=λk:Nat=>smG 5 k) (bls:=λ_=>smB a b) (fls:=λ_=>[]) (k+1) ⟨⟨hkb,λi hi=>by
   rcases cX (dJ hi) with h|rfl
   ·exact hw i h
   exact dZ.1 h5⟩,show b.c.l.length-(k+1)<b.c.l.length-k by omega⟩ rfl ⟨rfl,rfl⟩ trivial ⟨rfl,rfl,rfl⟩ bL aJo rfl⟩
 replace h4:¬(k:Int)<(a.c.l.length:Nat):=h4
 obtain rfl:k=b.c.l.length:=by omega
 have ec:a.c.l=b.c.l:=aJm hc hw
 refine aA gT mxd ?_
 show Sd _ _ _ _ _ _
 refine cO (λ_=>true) (λk:Nat=>smG 6 k) (λ_=>smB a b) (λ_=>[]) (λk=>k<=b.r.l.length/\∀i,i<k->a.r.l.getD i 0=b.r.l.getD i 0) (λk=>b.r.l.length-k) λhM=>⟨bS hM (chg:=λk:Nat=>smG 6 k) (bls:=λ_=>smB a b) (fls:=λ_=>[]) 0 ⟨aC _,λi hi=>absurd hi (aD _)⟩ rfl ⟨rfl,rfl⟩ trivial ⟨rfl,rfl,rfl⟩ bL aJo rfl,λk ⟨hk,hw⟩=>aA gT mxd ⟨λh4=>aA gT mxd ?_,λh4=>aA gT mxd ?_⟩⟩
 ·replace h4:(k:Int)<(a.r.l.length:Nat):=h4
  have hka:k<a.r.l.length:=by omega
  have hkb:k<b.r.l.length:=by omega
  refine⟨.seq [(0,false),(1,false),(2,false),(3,false),(4,false),(5,false),(6,false),(7,false),(8,false),(9,false),(10,false)],by kernel_rfl,k,⟨rfl,hka⟩,k,⟨rfl,hkb⟩,λh5=>aA gT mxd ?_,λh5=>aA gT mxd ?_⟩
  ·replace h5:a.r.l.getD k 0≠b.r.l.getD k 0:=h5
   exact⟨(),trivial,aM (ff λhh=>h5 (by rw[hh.2])) rfl trivial⟩
  replace h5:¬a.r.l.getD k 0≠b.r.l.getD k 0:=h5
  exact⟨(k+1:Nat),wi,bS hM (chg:=λk:Nat=>smG 6 k) (bls:=λ_=>smB a b) (fls:=λ_=>[]) (k+1) ⟨⟨hkb,λi hi=>by
   rcases cX (dJ hi) with h|rfl
   ·exact hw i h
   exact dZ.1 h5⟩,show b.r.l.length-(k+1)<b.r.l.length-k by omega⟩ rfl ⟨rfl,rfl⟩ trivial ⟨rfl,rfl,rfl⟩ bL aJo rfl⟩
 replace h4:¬(k:Int)<(a.r.l.length:Nat):=h4
 obtain rfl:k=b.r.l.length:=by omega
 exact aA gT mxd ⟨(),trivial,aM (tt ⟨ec,aJm hr hw⟩) rfl trivial⟩
theorem cFn {n m:Nat} (hn:n<=4) (hm:m<=n):yb (zb (2+3+n*(3+3+1)) (bd 3 m) m) (bd 3 m) m<=1000000000:=by
 have h1:n=0\/n=1\/n=2\/n=3\/n=4:=by omega
 have h2:m=0\/m=1\/m=2\/m=3\/m=4:=by omega
 rcases h1 with rfl|rfl|rfl|rfl|rfl<;>rcases h2 with rfl|rfl|rfl|rfl|rfl<;>decide+kernel
theorem cFo {m:Nat} (hm:m<=4):zT (zT 3 (bd 3 m) m) (bd 3 m) m<=1000000000:=by
 have h2:m=0\/m=1\/m=2\/m=3\/m=4:=by omega
 rcases h2 with rfl|rfl|rfl|rfl|rfl<;>decide+kernel
structure SmP (p:ProgM):Prop where
 n:p.c.l.length<=4/\p.r.l.length<=4
 c:bDp p.c.l
 r:∀r∈p.r.l,∃b es,RwS r b es p.c.l.length
theorem SmP.prg {p:ProgM} (h:SmP p):∃q,PrG p q 3:=by
 obtain⟨h1,h2⟩:=h.n
 obtain⟨f,hf⟩:=Classical.axiomOfChoice (r:=λ(j:Nat) (t:Rat×Rat×Rat)=>j<p.c.l.length->ClS (p.c.l.getD j default) t.1 t.2.1 t.2.2) λj=>by
  by_cases hj:j<p.c.l.length
  ·obtain⟨k,l,u,hc⟩:=h.c _ (fX hj)
   exact⟨(k,l,u),λ_=>hc⟩
  exact⟨(0,0,0),λhh=>absurd hh hj⟩
 obtain⟨g,hg⟩:=Classical.axiomOfChoice (r:=λ(i:Nat) (t:Rat×List En)=>i<p.r.l.length->RwS (p.r.l.getD i default) t.1 t.2 p.c.l.length) λi=>by
  by_cases hi:i<p.r.l.length
  ·obtain⟨b,es,hc⟩:=h.r _ (fX hi)
   exact⟨(b,es),λ_=>hc⟩
  exact⟨(0,[]),λhh=>absurd hh hi⟩
 have hlt:∀k,k<=16->bd 3 k<=4398046511104:=λk hk=>aG (nD hk) (by decide+kernel)
 exact⟨⟨λj=>(f j).1,λj=>(f j).2.1,λj=>(f j).2.2,λi=>(g i).1,λi=>(g i).2⟩,{
  v:={
   rd:=⟨λj hj=>(hf j hj).r,λi hi=>⟨(hg i hi).rd.b.le dC,(hg i hi).rd.e.le dC⟩⟩
   h1:=by decide
   hB:=by decide
   c:=by omega
   r:=by omega
   x:=λj hj=>(hf j hj).x
   v:=λi hi=>⟨(hg i hi).s,(hg i hi).v⟩
   e:=λi hi e he=>((hg i hi).e e he).le dC}
  c:=⟨λj hj=>(hf j hj).kc,λi hi=>(hg i hi).bc⟩
  k:=λj hj=>(hf j hj).k
  rl:=by omega
  cl:=by omega
  bB:=by decide
  f:=hlt _ oM
  s:=λm hm=>cFn h1 hm
  t:=λm hm=>cFo oM}⟩
theorem SmP.bd {p:ProgM} (h:SmP p):bd 3 (p.r.l.length*p.c.l.length)<=4398046511104:=by
 have h1:p.r.l.length*p.c.l.length<=4*4:=jB h.n.2 h.n.1
 exact aG (nD h1) (by decide+kernel)
structure RpS (p:ProgM) (b g:BasM):Prop where
 ex:∃q,PrG p q 3/\RpR p q b g
theorem aTk (p:ProgM) (b:BasM) {q:PrQ} (h:SmP p) (hq:PrG p q 3):Ctr Tryz.prog bEx [] [.a p.C,.a b.C] [] (λg:BasM=>⟨.t [.a g.C,.c (iC 0)],[],RpR p q b g⟩):=bNd p b hq.v (by have:=h.n;omega) (by have:=h.n;omega) h.bd
abbrev exC (k:RatM):ColM:=bDk k true default false default
abbrev exW (k:RatM):List CV:=[.b k.n.p k.n.d,dY k.n.m,dY k.d,.b (true=true) inferInstance,.b (false=true) inferInstance,.v (.slice none 0 0),.v (.slice none 0 0),.b (false=true) inferInstance,.b (false=true) inferInstance,.v (.slice none 0 0),.v (.slice none 0 0)]
theorem LeL.app {l1 l1' l2 l2':List CV} (h1:LeL l1 l1') (hl:l1'.length=l1.length) (h2:LeL l2 l2'):LeL (l1++l2) (l1'++l2'):=by
 induction l1 generalizing l1' with
 |nil=>
  cases l1' with
  |nil=>exact h2
  |cons a t=>cases hl
 |cons a t ih=>
  cases l1' with
  |nil=>cases hl
  |cons a' t'=>exact .cons (h1 0 a a' rfl rfl) (ih (λk c c' e1 e2=>h1 (k+1) c c' e1 e2) (qJ hl))
theorem bEy {k:RatM}:LeL (exW k) (exC k).C:=.cons (eX _) (.cons (eX _) (.cons (eX _) (.cons (eX _) (.cons (eX _) (.cons pH (.cons pH (.cons (eX _) (.cons (eX _) (.cons pH (.cons pH (LeL.refl _)))))))))))
structure ExP (p:ProgM):Prop where
 ex:∃(k1 k2 b v1 v2:RatM) (e:Sl EntM),(Cr k1 1/\Cr k2 1/\Cr b 3/\Cr v1 1/\Cr v2 1)/\p.c.l=[exC k1,exC k2]/\p.r.l=[⟨1,b,e⟩]/\e.l=[⟨0,v1⟩,⟨1,v2⟩]
abbrev bWw:FuncId:=63
theorem cLx:Ent Tryz.prog bWw:=aW func63 rfl kR
theorem cLy:Tryz.prog.funcs[bWw]? =some Tryz.f63:=func63
abbrev exE (v1 v2:RatM):List CV:=ecs [⟨0,v1⟩,⟨1,v2⟩]
abbrev exB (k1 k2 b v1 v2:RatM):BL:=[(42,0,[.s 1 2,.s 3 1]),(106,11,exW k1++exW k2),(82,4,exE v1 v2),(67,5,[iC 1,.b b.n.p b.n.d,dY b.n.m,dY b.d,.s 2 2])]
theorem bWx {k1 k2 b v1 v2:RatM}:scB 4 (exB k1 k2 b v1 v2):=aB rfl (aB rfl (aB rfl (aB rfl aY)))
theorem cFp:Ctr Tryz.prog bWw [] [] [] (λg:ProgM=>⟨.a g.C,[],ExP g⟩):=by
 refine aX gT cLx cLy rfl rfl rfl bL aS (Sd.sq (aA gT mxd (Sd.sq (aA gT mxd ⟨[],uI (z:=1) dC,rfl,rfl,rfl,λk1 h1=>⟨[],uI (z:=1) dC,rfl,rfl,rfl,λk2 h2=>⟨[],uI (z:=3) dC,rfl,rfl,rfl,λb hb=>⟨[],uI (z:=1) dC,rfl,rfl,rfl,λv1 hv1=>⟨[],uI (z:=1) dC,rfl,rfl,rfl,λv2 hv2=>?_⟩⟩⟩⟩⟩))))
 refine tSd _ Unit (λ_=>⟨[(0,.c (.p 0 0))]++[],[],exB k1 k2 b v1 v2,[]⟩) (λ_=>True) ?_ λ_ _=>?_
 ·exact bS (M:=λ_=>true) (base:=[]) (chg:=λ_:Unit=>[(0,.c (.p 0 0))]) (bls:=λ_=>exB k1 k2 b v1 v2) (fls:=λ_=>[]) (λt d ht=>by cases ht) () trivial rfl ⟨rfl,rfl,rfl,rfl⟩ trivial rfl bL bWx rfl
 refine aSr 1 ((exC k1).C++(exC k2).C) rfl rfl (LeL.app (l1:=exW k1) (l2:=exW k2) bEy rfl bEy) ?_
 refine mU tSd 2 rfl bL (sK rfl) bL rfl λA1 a1=>⟨_,sG oC (sK rfl),_,rfl,lI tSd 3 0 [iC 1,.b b.n.p b.n.d,dY b.n.m,dY b.d,cF ⟨A1.map λb=>⟨b,0,none⟩,a1,[⟨0,v1⟩,⟨1,v2⟩]⟩] rfl rfl rfl rfl (sC (k0:=4) rfl cDz) ?_⟩
 refine mU tSd 3 rfl bL (sK rfl) bL rfl λA2 a2=>⟨_,sG oC (sK rfl),_,rfl,lI tSd 0 1 [.s 1 2,aEn ⟨A2.map λb=>⟨b,0,none⟩,a2,[⟨1,b,⟨A1.map λb=>⟨b,0,none⟩,a1,[⟨0,v1⟩,⟨1,v2⟩]⟩⟩]⟩] rfl rfl rfl rfl (sC (k0:=1) rfl (bJy (f:=RowM.C) (dd:=default) (L:=[⟨1,b,⟨A1.map λb=>⟨b,0,none⟩,a1,[⟨0,v1⟩,⟨1,v2⟩]⟩⟩]) (λ_=>rfl) dC)) ?_⟩
 refine mU tSd 1 rfl bL (sK rfl) bL rfl λA3 a3=>⟨_,rfl,_,rfl,lI tSd 0 2 [wG ⟨A3.map λb=>⟨b,0,none⟩,a3,[exC k1,exC k2]⟩,aEn ⟨A2.map λb=>⟨b,0,none⟩,a2,[⟨1,b,⟨A1.map λb=>⟨b,0,none⟩,a1,[⟨0,v1⟩,⟨1,v2⟩]⟩⟩]⟩] rfl rfl rfl rfl (sC (k0:=0) rfl (bJy (f:=ColM.C) (dd:=default) (L:=[exC k1,exC k2]) (λ_=>rfl) dC)) ?_⟩
 exact aA gT mxd ⟨⟨⟨A3.map λb=>⟨b,0,none⟩,a3,[exC k1,exC k2]⟩,⟨A2.map λb=>⟨b,0,none⟩,a2,[⟨1,b,⟨A1.map λb=>⟨b,0,none⟩,a1,[⟨0,v1⟩,⟨1,v2⟩]⟩⟩]⟩⟩,⟨k1,k2,b,v1,v2,_,⟨h1,h2,hb,hv1,hv2⟩,rfl,rfl,rfl⟩,aM rfl rfl trivial⟩
def exQ:PrQ:=⟨λ_=>1,λ_=>0,λ_=>0,λ_=>3,λ_=>[(0,1),(1,1)]⟩
theorem bEz:VOk [((0:Int),(1:Rat)),(1,1)] ((2:Nat):Int):=⟨.cons (λb hb=>by rw[aI.1 hb];decide) (.cons (λb hb=>by cases hb) .nil),λe he=>by
 rcases bR.1 he with rfl|he
 ·exact⟨by decide,by decide,by decide⟩
 rw[aI.1 he];exact⟨by decide,by decide,by decide⟩⟩
theorem ExP.cl {p:ProgM} (h:ExP p):p.c.l.length=2:=by obtain⟨k1,k2,b,v1,v2,e,_,h1,_,_⟩:=h.ex;rw[h1];rfl
theorem ExP.rl {p:ProgM} (h:ExP p):p.r.l.length=1:=by obtain⟨k1,k2,b,v1,v2,e,_,_,h1,_⟩:=h.ex;rw[h1];rfl
theorem ExP.col {p:ProgM} (h:ExP p) {j:Nat} (hj:j<p.c.l.length):∃k,Cr k 1/\p.c.l.getD j default=exC k:=by
 obtain⟨k1,k2,b,v1,v2,e,⟨a1,a2,_⟩,h1,_,_⟩:=h.ex
 rw[h1] at hj ⊢
 match j,hj with
 |0,_=>exact⟨k1,a1,rfl⟩
 |1,_=>exact⟨k2,a2,rfl⟩
theorem ExP.row {p:ProgM} (h:ExP p) {i:Nat} (hi:i<p.r.l.length):∃b v1 v2 e,p.r.l.getD i default=⟨1,b,e⟩/\Cr b 3/\Cr v1 1/\Cr v2 1/\e.l=[⟨0,v1⟩,⟨1,v2⟩]:=by
 obtain⟨k1,k2,b,v1,v2,e,⟨a1,a2,a3,a4,a5⟩,h1,h2,h3⟩:=h.ex
 rw[h2] at hi ⊢
 match i,hi with
 |0,_=>exact⟨b,v1,v2,e,rfl,a3,a4,a5,h3⟩
theorem aVc:rb 1 1:=⟨by decide,by decide⟩
theorem cFq:rb 3 1:=⟨by decide,by decide⟩
theorem cLz:rb 0 1:=⟨by decide,by decide⟩
theorem ExP.ncr {k:RatM} {l u:Rat}:¬Crs (exC k) l u:=λhh=>by have h1:(false=true):=hh.1.2;cases h1
theorem ExP.prg {p:ProgM} (h:ExP p):PrG p exQ 3:=by
 have h1:=h.cl
 have h2:=h.rl
 have hlt:∀k,k<=16->bd 3 k<=4398046511104:=λk hk=>aG (nD hk) (by decide+kernel)
 exact {
  v:={
   rd:=⟨λj hj=>by
    obtain⟨k,hk,e⟩:=h.col hj
    rw[e]
    exact⟨hk.rq (aVc.le dC),uJ,uJ⟩,λi hi=>by
    obtain⟨b,v1,v2,e,er,hb,hv1,hv2,he⟩:=h.row hi
    rw[er]
    refine⟨hb.rq (cFq.le dC),⟨by rw[he];rfl,λk hk=>?_⟩⟩
    show(e.l.getD k default).ix=_/\Rq (e.l.getD k default).v _ 3
    rw[he]
    match k,hk with
    |0,_=>exact⟨rfl,hv1.rq (aVc.le dC)⟩
    |1,_=>exact⟨rfl,hv2.rq (aVc.le dC)⟩⟩
   h1:=by decide
   hB:=by decide
   c:=by omega
   r:=by omega
   x:=λj hj=>by
    obtain⟨k,hk,e⟩:=h.col hj
    rw[e];exact ExP.ncr
   v:=λi hi=>by
    obtain⟨b,v1,v2,e,er,_⟩:=h.row hi
    refine⟨by rw[er];exact .inr (.inr rfl),?_⟩
    rw[h1];exact bEz
   e:=λi hi e he=>by
    rcases bR.1 he with rfl|he
    ·exact aVc.le dC
    rw[aI.1 he];exact aVc.le dC}
  c:=⟨λj hj=>by
   obtain⟨k,hk,e⟩:=h.col hj
   rw[e];exact hk,λi hi=>by
   obtain⟨b,v1,v2,e,er,hb,_⟩:=h.row hi
   rw[er];exact hb⟩
  k:=λj hj=>aVc.le dC
  rl:=by omega
  cl:=by omega
  bB:=by decide
  f:=hlt _ oM
  s:=λm hm=>cFn oM hm
  t:=λm hm=>cFo oM}
theorem ExP.bd {p:ProgM} (h:ExP p):bd 3 (p.r.l.length*p.c.l.length)<=4398046511104:=by rw[h.cl,h.rl];decide+kernel
structure ExB (b:BasM):Prop where
 c:b.c.l=[2,0]
 r:b.r.l=[0]
theorem ExP.val {p:ProgM} {b:BasM} (h:ExP p) (hb:ExB b):BVal p exQ b:=by
 have h1:=h.cl
 have h2:=h.rl
 have e1:bcL b p.c.l.length=[0]:=by
  rw[h1]
  exact(oE (P:=λj=>b.c.l.getD j 0=2) (k:=1) (by show ¬b.c.l.getD 1 0=2;rw[hb.c];decide)).trans ((kH (P:=λj=>b.c.l.getD j 0=2) (k:=0) (by show b.c.l.getD 0 0=2;rw[hb.c];rfl)).trans rfl)
 have e2:brL b p.r.l.length=[0]:=by
  rw[h2]
  exact(kH (P:=λi=>b.r.l.getD i 0≠2) (k:=0) (by show b.r.l.getD 0 0≠2;rw[hb.r];decide)).trans rfl
 refine⟨⟨by rw[h1,hb.c];rfl,by rw[h2,hb.r];rfl,λj hj=>?_,λi hi=>?_⟩,by rw[e1,e2],?_⟩
 ·obtain⟨k,hk,e⟩:=h.col hj
  rw[e,hb.c]
  match j,(show j<2 by omega) with
  |0,_=>exact .inl rfl
  |1,_=>exact .inr (.inl ⟨rfl,rfl⟩)
 ·obtain⟨b',v1,v2,e,er,_⟩:=h.row hi
  rw[er,hb.r]
  match i,(show i<1 by omega) with
  |0,_=>exact .inr rfl
 rw[e2]
 intro ⟨x,⟨i,hi,hx⟩,hk⟩
 have h3:=hk 0 dC
 have h0:i=0:=by have:i<1:=hi;omega
 subst h0
 have hp:=h.prg.v
 have ec:=(fS (P:=λj=>b.c.l.getD j 0=2) p.c.l.length).1
 have h4:Vm.get (zJ p exQ b 0) ((0:Nat):Int)=1:=by
  refine(rD (κ:=atN (bcL b p.c.l.length)) (n:=(bcL b p.c.l.length).length) (es:=[((0:Int),(1:Rat)),(1,1)]) (k:=0) (λk l hkl hl=>ec.mono k l hkl hl) bEz.1 (by rw[e1];decide)).trans ?_
  rw[e1]
  decide+kernel
 have h5:(0:Rat)+Vm.get (zJ p exQ b 0) ((0:Nat):Int)*x 0=0:=h3
 rw[h4] at h5
 exact hx (by grind)
section ex
variable {p:ProgM} {b:BasM}
theorem ExP.pt (h:ExP p) (hb:ExB b) {Bx:Nat} {qs:List Rat} (hx:PtR p exQ b Bx qs):qs=[3,0]:=by
 have h1:=hx.ln
 rw[h.cl] at h1
 match qs,h1 with
 |[a,c],_=>
  have h2:c=x0N exQ b 1:=hx.x0 1 (by rw[h.cl];decide) (by rw[hb.c];decide)
  have h3:x0N exQ b 1=0:=if_pos (by rw[hb.c];rfl)
  have h4:(1:Rat)*a+((1:Rat)*c+0)=3:=hx.ti 0 (by rw[h.rl];decide) (by rw[hb.r];decide)
  have h5:c=0:=h2.trans h3
  rw[h5] at h4 ⊢
  rw[show a=3 by grind]
theorem ExP.mu (h:ExP p) (hb:ExB b) {By:Nat} {ps:List Rat} (hy:MuR p exQ b By ps):ps=[1]:=by
 have h1:=hy.ln
 rw[h.rl] at h1
 match ps,h1 with
 |[a],_=>
  have h2:=hy.d 0 (by rw[h.cl];decide) (by rw[hb.c];rfl)
  rw[h.rl] at h2
  have h3:(0:Rat)+a*Vm.get [((0:Int),(1:Rat)),(1,1)] ((0:Nat):Int)=1:=h2
  rw[show Vm.get [((0:Int),(1:Rat)),(1,1)] ((0:Nat):Int)=1 by decide+kernel] at h3
  rw[show a=1 by grind]
theorem ExP.fsb (h:ExP p):Fsb p exQ [3,0]:=by
 refine⟨λj hj hh=>?_,λi hi hh=>?_⟩
 ·obtain⟨k,hk,e⟩:=h.col hj
  have hh2:bUe (p.c.l.getD j default) 0 0 (lQ [3,0] j):=hh
  rw[e] at hh2
  rw[h.cl] at hj
  rcases hh2 with h2|h2
  ·match j,hj with
   |0,_=>exact absurd h2.2 (show ¬(3:Rat)<0 by decide+kernel)
   |1,_=>exact absurd h2.2 (show ¬(0:Rat)<0 by decide+kernel)
  have h3:(false=true):=h2.1
  cases h3
 obtain⟨b',v1,v2,e,er,_⟩:=h.row hi
 have hh2:Brk (p.r.l.getD i default).s (dtl [((0:Int),(1:Rat)),(1,1)] (lQ [3,0])) 3:=hh
 rw[show dtl [((0:Int),(1:Rat)),(1,1)] (lQ [3,0])=3 by decide+kernel] at hh2
 rcases hh2 with h2|h2
 ·exact absurd h2.1 (show ¬(3:Rat)<3 by decide+kernel)
 exact absurd h2.1 (show ¬(3:Rat)<3 by decide+kernel)
theorem ExP.dual (h:ExP p) (hb:ExB b):Sgd p [1]/\DuR p exQ b [1] p.c.l.length:=by
 refine⟨λi hi hh=>?_,λj hj hn hh=>?_⟩
 ·obtain⟨b',v1,v2,e,er,_⟩:=h.row hi
  rw[er] at hh
  rw[h.rl] at hi
  match i,hi with
  |0,_=>
   rcases hh with h2|h2
   ·exact absurd h2.1 (show ¬(1:Int)=-1 by decide)
   exact absurd h2.2 (show ¬sgn (1:Rat).num<0 by decide+kernel)
 rw[h.cl] at hj
 match j,hj with
 |0,_=>exact hn (.inl (by rw[hb.c];rfl))
 |1,_=>
  have e:gN exQ [1] p.r.l.length 1=0:=by
   rw[h.rl]
   show(1:Rat)-1*Vm.get [((0:Int),(1:Rat)),(1,1)] ((1:Nat):Int)=0
   decide+kernel
  rw[e] at hh
  rcases hh with h2|h2
  ·exact absurd h2.1 (show ¬sgn (0:Rat).num<0 by decide+kernel)
  exact absurd h2.1 (show ¬0<sgn (0:Rat).num by decide+kernel)
theorem ExP.rep (h:ExP p) {g:BasM} (hg:RpR p exQ ⟨cP,cP⟩ g):g.c.l=[0,0]/\g.r.l=[2]:=by
 have hw:(wnL p ⟨cP,cP⟩)=[]:=by
  have:(wnL p ⟨cP,cP⟩).length<=min p.c.l.length 0:=jQ
  exact kQ.1 oM
 have hc:(iN p exQ ⟨cP,cP⟩).length=0:=by
  have:(iN p exQ ⟨cP,cP⟩).length<=(wnL p ⟨cP,cP⟩).length:=jQ
  rw[hw] at this
  exact Nat.le_zero.1 this
 have hl:(ltL p exQ ⟨cP,cP⟩).length=0:=(bNe (p:=p) (q:=exQ) (b:=⟨cP,cP⟩)).1.trans hc
 have h1:=h.cl
 have h2:=h.rl
 refine⟨aJm (by rw[hg.cl,h1];rfl) λj hj=>?_,aJm (by rw[hg.rl,h2];rfl) λi hi=>?_⟩
 ·have hj':j<2:=hj
  rw[hg.c0 j oM λk hk=>absurd hk oM]
  obtain⟨k,hk,e⟩:=h.col (j:=j) oM
  rw[e]
  have h3:stC (exC k) (⟨cP,cP⟩:BasM).c.l j=dfC (exC k):=if_neg λhh=>absurd hh.1.1 (aD _)
  have h4:dfC (exC k)=0:=if_pos rfl
  rw[h3,h4]
  match j,hj' with
  |0,_=>rfl
  |1,_=>rfl
 have hi':i<1:=hi
 rw[hg.r2 i oM λk hk=>absurd hk oM]
 match i,hi' with
 |0,_=>rfl
end ex
theorem bFa {ρ:Pl} {n:Nat} {w:World} {c:CV} {x:Value} (h:Hc ρ n w c x) (hc:fO c=true):Rc (Zf ρ n w) w c x:=by
 cases c<;>first|exact h|cases hc
theorem bFb {ρ:Pl} {n i T e m:Nat} {w:World} {l:List CV} {Z:Nat->Prop} {get:Nat->List CV} (hq:Bq ρ n w i T e l) (he:0<e) (hl:m*e=l.length) (hg:∀j,j<m->get j=(l.drop (j*e)).take e) (hc:∀c∈l,fO c=true) (hZ:∀b,(ρ i).1=some b->Z b) (hz:∀b,Zf ρ n w b->Z b):
 Rc Z w (.r ((ρ i).1.map λb=>⟨b,0,none⟩) m (ρ i).2 e get) (.slice ((ρ i).1.map λb=>⟨b,0,none⟩) m (ρ i).2):=by
 unfold Bq at hq
 cases hb:(ρ i).1 with
 |none=>
  simp only[hb] at hq
  rw[hq.1] at hl
  have h0:m=0:=by
   rcases bX m with h|h
   ·exact h
   have:=jB h he;simp at hl;omega
  subst h0
  rw[hq.2.1]
  exact Rc.nil _ _ _ _ (aC _)
 |some b=>
  simp only[hb] at hq
  obtain⟨vl,junk,h1,h2,h3,h4⟩:=hq
  obtain⟨h5,h6⟩:=h3 he
  have hlen:=h2.len
  have hml:m*e<=(ρ i).2*e:=by rw[h5,aH,<-hlen];omega
  have hmc:m<=(ρ i).2:=eF hml he
  have hjb:∀j,j<m->j*e+e<=l.length:=λj hj=>by
   rw[<-hl]
   have:(j+1)*e<=m*e:=aQ e hj
   rw[dG] at this
   exact this
  refine Rc.r b 0 m (ρ i).2 e get (λj=>(vl.drop (j*e)).take e) hmc h6 (hZ b hb) (λj hj q u hu=>?_) (λj hj=>?_) λj hj q c u hcq hu=>?_
  ·rw[fF] at hu
   split at hu
   ·rw[dH] at hu
    exact⟨by rw[eG];exact mI h1 hu,h4 u (aP hu)⟩
   cases hu
  ·rw[hg j hj,bA,bA,cG,cG,hlen]
  rw[hg j hj] at hcq
  rw[fF] at hcq hu
  split at hu
  ·next hqe=>
   rw[if_pos hqe,dH] at hcq
   rw[dH] at hu
   obtain⟨x,h7,h8⟩:=h2.get hcq
   rw[hu] at h7
   injection h7 with h7
   subst h7
   have hcl:=hc c (aP hcq)
   have h9:Rc (Zf ρ n w) w c u:=bFa h8 hcl
   exact h9.mono λb hb=>⟨hz b hb,rfl⟩
  cases hu
abbrev smL (C R:List Int):BL:=[(3,1,C.map iC),(3,1,R.map iC)]
theorem cFr (a:BasM) (C R:List Int) (h1:a.c.l.length<=4096) (h2:a.r.l.length<=4096) (hc:a.c.l=C) (hr:a.r.l=R):Ctr Tryz.prog aTj [true,true] [.a a.C,.a [.s 0 C.length,.s 1 R.length]] (smL C R) (λ_:Unit=>⟨.c (.v (.bool true)),smL C R,True⟩):=by
 refine Ctr.lend (τ:=BasM) (al:=λb=>[.a a.C,.a b.C]) (X:=λb=>a.c.l=b.c.l/\a.r.l=b.r.l) (R:=λ_:Unit=>⟨.c (.v (.bool true)),[],True⟩) bNf (λb hb=>CtrF.ld (cFm a b h1 h2) λg hg=>⟨(),trivial,λ_ _ _ _ hv=>aFp hb hv,rfl,rfl⟩) ?_ ?_ ?_
 ·intro g ρ n w v h ρ' n' w'
  rw[h.inv_c.inv_v]
  exact .c (Rc.v _)
 ·exact ClB.cons (λ_=>aR.2 (cJ _)) (eI (aR.2 (cJ _)))
 intro ρ w vals hD hv
 match vals,hv with
 |[x,y],⟨hx,hy,_⟩=>
  have hz:∀b,Zf ρ 2 w b->Zf ⟨ρ.at',λ_=>True,[]⟩ 0 w b:=λb hb=>⟨hb.lt,λi hi=>absurd hi (aD _),trivial,λ⟨F,hF,_⟩=>by cases hF⟩
  have hZ:∀i,i<2->∀b,(ρ i).1=some b->Zf ⟨ρ.at',λ_=>True,[]⟩ 0 w b:=λi hi b hb=>⟨hD.lt (i:=i) hi hb,λi hi=>absurd hi (aD _),trivial,λ⟨F,hF,_⟩=>by cases hF⟩
  refine⟨⟨⟨(ρ 0).1.map λb=>⟨b,0,none⟩,(ρ 0).2,C⟩,⟨(ρ 1).1.map λb=>⟨b,0,none⟩,(ρ 1).2,R⟩⟩,⟨hc,hr⟩,?_,?_,trivial⟩
  ·cases hx with
   |a h=>
    next vl=>
    match vl,h with
    |[_,_],⟨g0,g1,_⟩=>exact .a ⟨(bFa g0 rfl).mono λb hb=>⟨hz b hb,rfl⟩,(bFa g1 rfl).mono λb hb=>⟨hz b hb,rfl⟩,trivial⟩
  cases hy with
  |a h=>
   next vl=>
   match vl,h with
   |[u,v],⟨g0,g1,_⟩=>
    refine .a ⟨?_,?_,trivial⟩
    ·show Rc _ w (cM _) u
     rw[g0.2]
     exact bFb (hD.ok 0 _ _ _ rfl) bL (by rw[aU,bU]) (λj hj=>qT j hj) (cJ _) (hZ 0 bL) hz
    show Rc _ w (cM _) v
    rw[g1.2]
    exact bFb (hD.ok 1 _ _ _ rfl) bL (by rw[aU,bU]) (λj hj=>qT j hj) (cJ _) (hZ 1 bL) hz
theorem bWy:LeL [.v (.slice none 0 0),.v (.slice none 0 0)] (⟨cP,cP⟩:BasM).C:=.cons pH (.cons pH (LeL.refl _))
theorem bLd (p:ProgM) (h:ExP p):Ctr Tryz.prog bEx [] [.a p.C,.a [.v (.slice none 0 0),.v (.slice none 0 0)]] [] (λg:BasM=>⟨.t [.a g.C,.c (iC 0)],[],g.c.l=[0,0]/\g.r.l=[2]⟩):=
 CtrF.arg (al:=[.a p.C,.a (⟨cP,cP⟩:BasM).C]) (CtrF.re (bNd p ⟨cP,cP⟩ h.prg.v (by rw[h.rl];decide) (by rw[h.cl];decide) h.bd) λg hg=>⟨g,h.rep hg,rfl,rfl,rfl⟩) λρ n w vals hv=>by
  match vals,hv with
  |[x,y],⟨hx,hy,_⟩=>exact⟨hx,LeL.hd bWy rfl hy,trivial⟩
theorem cFs (p:ProgM) (b:BasM) {q:PrQ} {B:Nat} (h:PrG p q B) (hb:BVal p q b):Ctr Tryz.prog bKm [] [.a p.C,.a b.C] [] (λ_:Unit=>⟨.c (.v (.bool true)),[],True⟩):=CtrF.ld (cFd p b h.v h.rl h.f) λg hg=>⟨(),trivial,λ_ _ _ _ hv=>aFp hb hv,rfl,rfl⟩
theorem cFt (p:ProgM) (b:BasM) (h:ExP p) (hb:ExB b):Ctr Tryz.prog bKt [] [.a p.C,.a b.C] [] (λ_:Unit=>⟨.c (.v (.bool true)),[],True⟩):=CtrF.ld (bNb p b h.prg (h.val hb)) λg hg=>⟨(),trivial,λ_ _ _ _ hv=>aFp (by rw[h.pt hb (show PtL p exQ b g.1 g.2 from hg).2];exact h.fsb) hv,rfl,rfl⟩
theorem cFu (p:ProgM) (b:BasM) (h:ExP p) (hb:ExB b):Ctr Tryz.prog bKu [] [.a p.C,.a b.C] [] (λ_:Unit=>⟨.c (.v (.bool true)),[],True⟩):=CtrF.ld (bNc p b h.prg (h.val hb)) λg hg=>⟨(),trivial,λ_ _ _ _ hv=>aFp (by rw[h.mu hb (show MuL p exQ b g.1 g.2 from hg).2];exact h.dual hb) hv,rfl,rfl⟩
theorem cFv (p:ProgM) (b:BasM) (h:ExP p) (hb:ExB b):Ctr Tryz.prog bKs [] [.a p.C,.a b.C] [] (λg:Sl RatM=>⟨.t [.c (fY g),.c (iC 0)],[],Rl g.l [3,0]⟩):=CtrF.re (bEp p b h.prg (h.val hb)) λg hg=>⟨g.1,by have:=h.pt hb (show PtL p exQ b g.1 g.2 from hg).2;rw[<-this];exact(show PtL p exQ b g.1 g.2 from hg).1,rfl,rfl,rfl⟩
theorem bLe (x y:Sl RatM) (hx:Rl x.l [3,0]) (hy:Rl y.l [3,0]):Ctr Tryz.prog aIj [] [.c (fY x),.c (fY y)] [] (λ_:Unit=>⟨.c (.v (.bool true)),[],True⟩):=CtrF.ld (bIl x y hx hy (λq hq=>by
 rcases bR.1 hq with rfl|hq
 ·exact cFq.le dC
 rw[aI.1 hq];exact cLz.le dC) dC) λg hg=>⟨(),trivial,λ_ _ _ _ hv=>aFp trivial hv,rfl,rfl⟩
abbrev bWz:FuncId:=19
theorem cMa:Ent Tryz.prog bWz:=aW func19 rfl kR
theorem cMb:Tryz.prog.funcs[bWz]? =some Tryz.f19:=func19
abbrev bXa (p:ProgM):BL:=[(42,0,p.C),(3,1,[iC 2,iC 0]),(3,1,[iC 0]),(45,0,[.s 1 2,.s 2 1])]
theorem bLf {p:ProgM}:scB 4 (bXa p):=aB rfl (aB rfl (aB rfl (aB rfl aY)))
theorem bLg:Ctr Tryz.prog bWz [] [] [] (λ_:Unit=>⟨.c (.v (.bool true)),[],True⟩):=by
 refine aX gT cMa cMb rfl rfl rfl bL aS (Sd.sq (aA gT mxd (Sd.sq (aA gT mxd ⟨[],cFp,rfl,rfl,rfl,λp hp=>?_⟩))))
 replace hp:ExP p:=hp
 refine Sd.sq (aA gT mxd ?_)
 refine tSd _ Unit (λ_=>⟨[(1,.c (.p 0 0)),(2,.c (.p 3 0))]++[],[],bXa p,[]⟩) (λ_=>True) ?_ λ_ _=>?_
 ·exact bS (M:=λ_=>true) (base:=[]) (chg:=λ_:Unit=>[(1,.c (.p 0 0)),(2,.c (.p 3 0))]) (bls:=λ_=>bXa p) (fls:=λ_=>[]) (λt d ht=>by cases ht) () trivial rfl ⟨rfl,rfl,rfl,rfl⟩ trivial ⟨rfl,rfl⟩ bL bLf rfl
 refine mU tSd 2 rfl bL (cJ [0]) bL rfl λA a1=>⟨_,sG oC (cJ [2,0]),lI tSd 3 0 [.s 1 2,cM ⟨A.map λb=>⟨b,0,none⟩,a1,[0]⟩] rfl rfl rfl rfl (sC (k0:=1) rfl (aLt (L:=[0]))) ?_⟩
 refine mU tSd 1 rfl bL (cJ [2,0]) bL rfl λA2 a2=>⟨_,rfl,lI tSd 3 1 [cM ⟨A2.map λb=>⟨b,0,none⟩,a2,[2,0]⟩,cM ⟨A.map λb=>⟨b,0,none⟩,a1,[0]⟩] rfl rfl rfl rfl (sC (k0:=0) rfl (aLt (L:=[2,0]))) ?_⟩
 obtain⟨C,hC⟩:∃C:Sl Int,C=⟨A2.map λb=>⟨b,0,none⟩,a2,[2,0]⟩:=⟨_,rfl⟩
 obtain⟨R,hR⟩:∃R:Sl Int,R=⟨A.map λb=>⟨b,0,none⟩,a1,[0]⟩:=⟨_,rfl⟩
 rw[<-hC,<-hR]
 have hb:ExB ⟨C,R⟩:=⟨by rw[hC],by rw[hR]⟩
 refine aA gT mxd ⟨[],cFv p ⟨C,R⟩ hp hb,rfl,rfl,rfl,λx hx=>⟨[],bLd p hp,rfl,rfl,rfl,λr hr=>⟨[],cFs p ⟨C,R⟩ hp.prg (hp.val hb),rfl,rfl,rfl,λ_ _=>?_⟩⟩⟩
 replace hx:Rl x.l [3,0]:=hx
 replace hr:r.c.l=[0,0]/\r.r.l=[2]:=hr
 refine⟨λh1=>⟨[],uI (z:=3) dC,rfl,rfl,rfl,λf hf=>⟨[],bAh,rfl,rfl,rfl,λz hz=>⟨some (λj=>(([f,z]:List RatM).getD j default).C),⟨⟨bL,bL⟩,rfl,λj hj=>?_,sK rfl⟩,λA3 a3 _ _=>⟨λc hc=>(dO hc).elim,λc hc=>(dO hc).elim,[],bLe x ⟨A3,a3,[f,z]⟩ hx ⟨rfl,λk hk=>?_⟩,rfl,rfl,rfl,λ_ _=>?_⟩⟩⟩⟩,λh1=>absurd rfl h1⟩
 ·match j,hj with
  |0,_=>rfl
  |1,_=>rfl
 ·match k,hk with
  |0,_=>exact hf
  |1,_=>exact hz
 refine⟨λh2=>⟨[6,7],cFr r [0,0] [2] (by rw[hr.1];decide) (by rw[hr.2];decide) hr.1 hr.2,rfl,rfl,rfl,λ_ _=>⟨[],cFt p ⟨C,R⟩ hp hb,rfl,rfl,rfl,λ_ _=>⟨[],cFu p ⟨C,R⟩ hp hb,rfl,rfl,rfl,λ_ _=>⟨(),trivial,aM rfl rfl trivial⟩⟩⟩⟩,λh2=>absurd rfl h2⟩
abbrev lrB (p:ProgM) (b:BasM):BL:=[(42,0,p.C),(45,0,b.C)]
theorem aJp {p:ProgM} {b:BasM}:scB 2 (lrB p b):=aB rfl (aB rfl aY)
def bnW (q:PrQ) (d:Nat->Rat) (j:Nat):Rat:=if 0<d j then d j*q.l j else if d j<0 then d j*q.u j else 0
def bnY (q:PrQ) (ps:List Rat) (k:Nat):Rat:=cA (λi=>lQ ps i*q.b i) k
def bnC (p:ProgM) (q:PrQ) (ps:List Rat) (k:Nat):Rat:=bnY q ps p.r.l.length+cA (bnW q (gN q ps p.r.l.length)) k
structure BnH (p:ProgM) (q:PrQ) (y:Sl RatM) (ps:List Rat) (B By:Nat):Prop where
 z:PrZ p q y ps B By
 s:Sgd p ps
 c:∀j,j<p.c.l.length->(0<gN q ps p.r.l.length j->(p.c.l.getD j default).pl)/\(gN q ps p.r.l.length j<0->(p.c.l.getD j default).pu)
 b:2+(p.r.l.length+p.c.l.length+1)*(B+p.r.l.length*(By+B+1)+B+By+1)<=4398046511104
theorem zL {d:Rat}:0<sgn d.num↔0<d:=by rw[aSe];exact uN
theorem zM {d:Rat}:sgn d.num<0↔d<0:=by rw[aSe];exact aAg
theorem aAo {p:ProgM} {s:RatM}:scB 3 [(42,0,p.C),(62,0,vG),(62,0,s.C)]:=aB rfl (aB rfl (aB rfl aY))
abbrev bnB (p:ProgM) (s:RatM):BL:=[(42,0,p.C),(62,0,vG),(62,0,s.C)]
abbrev bXb (p:ProgM) (y d:Sl RatM) (k:Nat):List (Nat×DV):=[(29,.c (iC k)),(2,.c (.p 0 0)),(4,.c (.p 1 0)),(8,.c (.p 2 0)),(1,.c (fY y)),(6,.c (fY d)),(27,.c (aEn p.r)),(28,.c (iC (p.r.l.length:Nat)))]
abbrev bFc (p:ProgM) (y d:Sl RatM) (k:Nat):List (Nat×DV):=[(47,.c (iC k)),(2,.c (.p 0 0)),(4,.c (.p 1 0)),(8,.c (.p 2 0)),(6,.c (fY d)),(45,.c (wG p.c)),(46,.c (iC (p.c.l.length:Nat)))]
abbrev bXc:FuncId:=98
theorem cMc:Ent Tryz.prog bXc:=aW func98 rfl kR
theorem cMd:Tryz.prog.funcs[bXc]? =some Tryz.f98:=func98
theorem cFw (p:ProgM) (y:Sl RatM) {q:PrQ} {ps:List Rat} {B By:Nat} (h:BnH p q y ps B By):Ctr Tryz.prog bXc [] [.a p.C,.c (fY y)] [] (λg:RatM=>⟨.t [.a g.C,.c (.v (.bool true))],[],Cr g (bnC p q ps p.c.l.length)/\rb (bnC p q ps p.c.l.length) 4398046511104⟩):=by
 have hz:=h.z
 have hv:=hz.y.v
 have hB:=h.b
 have h1:=hv.h1
 have hyl:y.l.length=p.r.l.length:=hz.y.y.ln.trans hz.y.l
 obtain⟨R,hR⟩:∃R,R=p.r.l.length:=⟨_,rfl⟩
 obtain⟨D,hD⟩:∃D,D=B+p.r.l.length*(By+B+1):=⟨_,rfl⟩
 rw[<-hD] at hB
 obtain⟨E,hE⟩:∃E,E=D+B+By+1:=⟨_,rfl⟩
 rw[<-hE] at hB
 have hE1:E<=4398046511104:=by
  have:1*E<=(p.r.l.length+p.c.l.length+1)*E:=aQ _ oM
  omega
 have hy:∀i,i<p.r.l.length->rb (lQ ps i) By:=λi hi=>hz.y.q _ (gD0 (by rw[hz.y.l];exact hi))
 have hbi:∀i,i<p.r.l.length->rb (q.b i) B:=λi hi=>(hv.rd.r i hi).b.rb h1
 have hred:∀j,j<p.c.l.length->rb (gN q ps p.r.l.length j) D:=λj hj=>by rw[hD];exact hz.rd hj _ (aJ _)
 have hY:∀k,k<=p.r.l.length->rb (bnY q ps k) (1+k*E):=λk hk=>(aBt (b:=By+B) oM λi hi=>fI (hy i oM) (hbi i oM)).le (by
  have:k*(By+B+1)<=k*E:=cN _ oM
  omega)
 have hW:∀j,j<p.c.l.length->rb (bnW q (gN q ps p.r.l.length) j) (D+B):=λj hj=>by
  unfold bnW
  split
  ·exact fI (hred j hj) ((hv.rd.c j hj).l.rb h1)
  split
  ·exact fI (hred j hj) ((hv.rd.c j hj).u.rb h1)
  exact yZ oM
 have hC:∀k,k<=p.c.l.length->rb (bnC p q ps k) 4398046511104:=λk hk=>(uL (hY _ (aJ _)) (aBt (b:=D+B) oM λj hj=>hW j oM)).le (by
  have e1:k*(D+B+1)<=p.c.l.length*E:=jB hk oM
  have e2:(p.r.l.length+p.c.l.length+1)*E=p.r.l.length*E+p.c.l.length*E+E:=by rw[cR,cR,gS]
  have e3:p.r.l.length*E<=p.r.l.length*E:=aJ _
  omega)
 have hY2:∀k,k<=p.r.l.length->rb (bnY q ps k) 4398046511104:=λk hk=>(hY k hk).le (by
  have e1:k*E<=p.r.l.length*E:=aQ _ hk
  have e2:(p.r.l.length+p.c.l.length+1)*E=p.r.l.length*E+p.c.l.length*E+E:=by rw[cR,cR,gS]
  omega)
 refine aX gT cMc cMd rfl rfl rfl bL aS (aA gT mxd ⟨[],bMm p y hz.y,rfl,rfl,rfl,λ_ _=>⟨λhh=>absurd h.s hh,λ_=>aA gT mxd ⟨[],bMn p y hz,rfl,rfl,rfl,λd ⟨hdl,hd⟩=>⟨[],sD (z:=0) dC,rfl,rfl,rfl,λz hz0=>?_⟩⟩⟩⟩)
 replace hdl:d.l.length=p.c.l.length:=hdl
 replace hd:∀j,j<p.c.l.length->Cr (d.l.getD j default) (gN q ps p.r.l.length j):=hd
 have hr:=hv.r
 have hcn:=hv.c
 have hyB:By<=4398046511104:=by omega
 show Sd _ _ _ _ _ _
 refine cO (λ_=>true) (λg:Nat×RatM=>bXb p y d g.1) (λg=>bnB p g.2) (λ_=>[]) (λg=>g.1<=p.r.l.length/\Cr g.2 (bnY q ps g.1)) (λg=>p.r.l.length-g.1) λhM=>⟨bS hM (chg:=λg:Nat×RatM=>bXb p y d g.1) (bls:=λg=>bnB p g.2) (fls:=λ_=>[]) (0,z) ⟨aC _,hz0⟩ rfl ⟨rfl,rfl,rfl⟩ trivial ⟨rfl,rfl,rfl,rfl,rfl,rfl,rfl,rfl⟩ bL aAo rfl,λ⟨k,s⟩ ⟨hk,hs⟩=>aA gT mxd ⟨λh3=>aA gT mxd ?_,λh3=>aA gT mxd ?_⟩⟩
 all_goals
  replace hk:k<=p.r.l.length:=hk
  replace hs:Cr s (bnY q ps k):=hs
 ·replace h3:(k:Int)<(p.r.l.length:Nat):=h3
  have hkn:k<p.r.l.length:=by omega
  have hX:=(hz.y.y.rq hz.y.q (k:=k) (by rw[hz.y.l];exact hkn)).le hyB
  exact⟨k,⟨rfl,hkn⟩,.seq (sqX [8,9] 10),by kernel_rfl,k,⟨rfl,show k<y.l.length by omega⟩,[],pQ (y.l.getD k default) (p.r.l.getD k default).b hX ((hv.rd.r k hkn).b.le hv.hB),rfl,rfl,rfl,λm hm=>⟨[],wA s m (hs.rq (hY2 k hk)) (Cr.rq hm ((fI (hy k hkn) (hbi k hkn)).le oM)),rfl,rfl,rfl,λg hg=>⟨(k+1:Nat),wi,bS hM (chg:=λg:Nat×RatM=>bXb p y d g.1) (bls:=λg=>bnB p g.2) (fls:=λ_=>[]) (k+1,g) ⟨⟨hkn,hg⟩,show p.r.l.length-(k+1)<p.r.l.length-k by omega⟩ rfl ⟨rfl,rfl,rfl⟩ trivial ⟨rfl,rfl,rfl,rfl,rfl,rfl,rfl,rfl⟩ bL aAo rfl⟩⟩⟩
 replace h3:¬(k:Int)<(p.r.l.length:Nat):=h3
 obtain rfl:k=p.r.l.length:=by omega
 refine aA gT mxd ?_
 show Sd _ _ _ _ _ _
 refine cO (λ_=>true) (λg:Nat×RatM=>bFc p y d g.1) (λg=>bnB p g.2) (λ_=>[]) (λg=>g.1<=p.c.l.length/\Cr g.2 (bnC p q ps g.1)) (λg=>p.c.l.length-g.1) λhM=>⟨bS hM (chg:=λg:Nat×RatM=>bFc p y d g.1) (bls:=λg=>bnB p g.2) (fls:=λ_=>[]) (0,s) ⟨aC _,by show Cr s (bnY q ps _+0);rw[bM];exact hs⟩ rfl ⟨rfl,rfl,rfl⟩ trivial ⟨rfl,rfl,rfl,rfl,rfl,rfl,rfl⟩ bL aAo rfl,λ⟨k,s⟩ ⟨hk,hs⟩=>aA gT mxd ⟨λh3=>aA gT mxd ?_,λh3=>aA gT mxd ?_⟩⟩
 all_goals
  replace hk:k<=p.c.l.length:=hk
  replace hs:Cr s (bnC p q ps k):=hs
 ·replace h3:(k:Int)<(p.c.l.length:Nat):=h3
  have hkn:k<p.c.l.length:=by omega
  have hkd:k<d.l.length:=by omega
  have hdk:=hd k hkn
  have hrk:rb (gN q ps p.r.l.length k) 4398046511104:=(hred k hkn).le oM
  have hnx:∀w,w=bnW q (gN q ps p.r.l.length) k->bnC p q ps (k+1)=bnC p q ps k+w:=λw hw=>by
   unfold bnC
   rw[hw,lS];rfl
  refine⟨k,⟨rfl,hkn⟩,k,⟨rfl,hkd⟩,[],jF (d.l.getD k default) (hdk.rq hrk),rfl,rfl,rfl,λ_ _=>⟨λh4=>aA gT mxd ?_,λh4=>aA gT mxd ⟨λh5=>aA gT mxd ?_,λh5=>aA gT mxd ⟨λh6=>aA gT mxd ?_,λh6=>aA gT mxd ?_⟩⟩⟩⟩
  ·replace h4:0<sgn (gN q ps p.r.l.length k).num/\(p.c.l.getD k default).pl:=h4
   have hpos:=zL.1 h4.1
   have hw:gN q ps p.r.l.length k*q.l k=bnW q (gN q ps p.r.l.length) k:=(if_pos hpos).symm
   exact⟨.seq (sqX [8,9] 10),by kernel_rfl,k,⟨rfl,hkd⟩,[],pQ (d.l.getD k default) (p.c.l.getD k default).l (hdk.rq hrk) ((hv.rd.c k hkn).l.le hv.hB),rfl,rfl,rfl,λm hm=>⟨[],wA s m (hs.rq (hC k hk)) (Cr.rq hm ((fI (hred k hkn) ((hv.rd.c k hkn).l.rb h1)).le oM)),rfl,rfl,rfl,λg hg=>⟨(k+1:Nat),wi,bS hM (chg:=λg:Nat×RatM=>bFc p y d g.1) (bls:=λg=>bnB p g.2) (fls:=λ_=>[]) (k+1,g) ⟨⟨hkn,by show Cr g (bnC p q ps (k+1));rw[hnx _ hw];exact hg⟩,show p.c.l.length-(k+1)<p.c.l.length-k by omega⟩ rfl ⟨rfl,rfl,rfl⟩ trivial ⟨rfl,rfl,rfl,rfl,rfl,rfl,rfl⟩ bL aAo rfl⟩⟩⟩
  ·replace h5:sgn (gN q ps p.r.l.length k).num<0/\(p.c.l.getD k default).pu:=h5
   have hneg:=zM.1 h5.1
   have hw:gN q ps p.r.l.length k*q.u k=bnW q (gN q ps p.r.l.length) k:=((if_neg (by grind)).trans (if_pos hneg)).symm
   exact⟨.seq (sqX [8,9] 10),by kernel_rfl,k,⟨rfl,hkd⟩,[],pQ (d.l.getD k default) (p.c.l.getD k default).u (hdk.rq hrk) ((hv.rd.c k hkn).u.le hv.hB),rfl,rfl,rfl,λm hm=>⟨[],wA s m (hs.rq (hC k hk)) (Cr.rq hm ((fI (hred k hkn) ((hv.rd.c k hkn).u.rb h1)).le oM)),rfl,rfl,rfl,λg hg=>⟨(k+1:Nat),wi,bS hM (chg:=λg:Nat×RatM=>bFc p y d g.1) (bls:=λg=>bnB p g.2) (fls:=λ_=>[]) (k+1,g) ⟨⟨hkn,by show Cr g (bnC p q ps (k+1));rw[hnx _ hw];exact hg⟩,show p.c.l.length-(k+1)<p.c.l.length-k by omega⟩ rfl ⟨rfl,rfl,rfl⟩ trivial ⟨rfl,rfl,rfl,rfl,rfl,rfl,rfl⟩ bL aAo rfl⟩⟩⟩
  ·replace h4:¬(0<sgn (gN q ps p.r.l.length k).num/\(p.c.l.getD k default).pl):=h4
   replace h5:¬(sgn (gN q ps p.r.l.length k).num<0/\(p.c.l.getD k default).pu):=h5
   replace h6:sgn (gN q ps p.r.l.length k).num≠0:=h6
   rcases Int.lt_or_gt_of_ne h6 with h7|h7
   ·exact absurd ⟨h7,(h.c k hkn).2 (zM.1 h7)⟩ h5
   exact absurd ⟨h7,(h.c k hkn).1 (zL.1 h7)⟩ h4
  replace h6:¬sgn (gN q ps p.r.l.length k).num≠0:=h6
  have hw:0=bnW q (gN q ps p.r.l.length) k:=((if_neg λh7=>by have:=zL.2 h7;omega).trans (if_neg λh7=>by have:=zM.2 h7;omega)).symm
  exact⟨(k+1:Nat),wi,bS hM (chg:=λg:Nat×RatM=>bFc p y d g.1) (bls:=λg=>bnB p g.2) (fls:=λ_=>[]) (k+1,s) ⟨⟨hkn,by show Cr s (bnC p q ps (k+1));rw[hnx _ hw,bM];exact hs⟩,show p.c.l.length-(k+1)<p.c.l.length-k by omega⟩ rfl ⟨rfl,rfl,rfl⟩ trivial ⟨rfl,rfl,rfl,rfl,rfl,rfl,rfl⟩ bL aAo rfl⟩
 replace h3:¬(k:Int)<(p.c.l.length:Nat):=h3
 obtain rfl:k=p.c.l.length:=by omega
 exact aA gT mxd ⟨s,⟨hs,hC _ (aJ _)⟩,aM ⟨rfl,rfl⟩ rfl trivial⟩
abbrev bFd:FuncId:=40
theorem cFx:Ent Tryz.prog bFd:=aW func40 rfl kR
theorem cFy:Tryz.prog.funcs[bFd]? =some Tryz.f40:=func40
theorem bXd (p:ProgM) (x y:Sl RatM) {q:PrQ} {qs ps:List Rat} {B Bx By:Nat} (hx:PrX p q x qs B Bx) (hy:BnH p q y ps B By) (hf:Fsb p q qs) (he:obj q qs p.c.l.length=bnC p q ps p.c.l.length):Ctr Tryz.prog bFd [] [.a p.C,.c (fY x),.c (fY y)] [] (λ_:Unit=>⟨pC True,[],True⟩):=by
 refine aX gT cFx cFy rfl rfl rfl bL aS (aA gT mxd ⟨[],bMl p x hx,rfl,rfl,rfl,λ_ _=>⟨λh=>absurd hf h,λ_=>aA gT mxd ⟨[],cFw p y hy,rfl,rfl,rfl,λg ⟨hg,hgb⟩=>⟨[],cDu p x hx hy.z.k,rfl,rfl,rfl,λo ho=>⟨[],sH o g (Cr.rq ho (hx.ob hy.z.k (aJ _))) (Cr.rq hg hgb),rfl,rfl,rfl,λ_ _=>⟨(),trivial,aM ?_ rfl trivial⟩⟩⟩⟩⟩⟩)
 exact⟨λ_=>trivial,λ_=>aPj.2 he⟩
section un
variable {p:ProgM} {q:PrQ} {b:BasM} {B:Nat}
theorem BVal.sq (hb:BVal p q b) (hp:PrV p q B):Free (λk l=>Vm.get (q.M (atN (brL b p.r.l.length) k)) (atN (bcL b p.c.l.length) l:Nat)) (brL b p.r.l.length).length (brL b p.r.l.length).length:=λx hx i hi=>aT λhxi=>hb.k ⟨x,⟨i,hi,hxi⟩,λk hk=>by
 have ec:=(fS (P:=λj=>b.c.l.getD j 0=2) p.c.l.length).1
 have er:=(fS (P:=λi=>b.r.l.getD i 0≠2) p.r.l.length).1
 have hn:=hb.n
 rw[<-hx k hk]
 unfold dtn
 refine bP λl hl=>?_
 show Vm.get (iV _ _ (q.M (atN (brL b p.r.l.length) k))) (l:Nat)*x l=_
 have hl2:l<(bcL b p.c.l.length).length:=by omega
 rw[rD (λk l hkl hl=>ec.mono k l hkl hl) (hp.v _ (er.lt k hk)).2.1 hl2]⟩
theorem aTl {P:Nat->Prop} {n m:Nat} {e:Nat->Nat} {f:Nat->Rat} (he:Enm P n m e) (h0:∀j,j<n->¬P j->f j=0):cA f n=cA (λl=>f (e l)) m:=by
 have h1:cA f n=cA (λj=>1*spr m e (λl=>f (e l)) j) n:=bP λj hj=>by
  rw[jW]
  by_cases h:P j
  ·obtain⟨k,hk,rfl⟩:=he.all j hj h
   rw[aJb hk λl hl e2=>he.inj hl hk e2]
  rw[h0 j hj h,aJc λl hl e2=>absurd (he.mem l hl) (by rw[e2];exact h)]
 rw[h1,aBw he.lt]
 exact bP λl _=>by rw[jW]
theorem aMf {a c:List Rat} (hl:a.length=c.length) (h:∀k,k<c.length->lQ a k=lQ c k):a=c:=iW hl λk h1 h2=>by
 have:=h k h2
 unfold lQ at this
 rw[aO,aO,aE h1,aE h2] at this
 exact this
theorem aMg (hp:PrV p q B) {i:Nat} (hi:i<p.r.l.length) (x:Nat->Rat):dtl (q.M i) x=cA (λj=>Vm.get (q.M i) (j:Nat)*x j) p.c.l.length:=sI λe he=>⟨((hp.v i hi).2.2 e he).1,((hp.v i hi).2.2 e he).2.1⟩
theorem PtR.uniq (hb:BVal p q b) (hp:PrV p q B) {Bx Bx':Nat} {qs qs':List Rat} (h:PtR p q b Bx qs) (h':PtR p q b Bx' qs'):qs=qs':=by
 have ec:=(fS (P:=λj=>b.c.l.getD j 0=2) p.c.l.length).1
 have er:=(fS (P:=λi=>b.r.l.getD i 0≠2) p.r.l.length).1
 have hn:=hb.n
 have hz:∀l,l<(brL b p.r.l.length).length->lQ qs (atN (bcL b p.c.l.length) l)-lQ qs' (atN (bcL b p.c.l.length) l)=0:=hb.sq hp _ λk hk=>by
  have hi:=er.lt k hk
  have e1:=h.ti _ hi (er.mem k hk)
  have e2:=h'.ti _ hi (er.mem k hk)
  rw[aMg hp hi] at e1 e2
  have e3:cA (λj=>Vm.get (q.M (atN (brL b p.r.l.length) k)) (j:Nat)*(lQ qs j-lQ qs' j)) p.c.l.length=0:=by
   have e4:cA (λj=>Vm.get (q.M (atN (brL b p.r.l.length) k)) (j:Nat)*(lQ qs j-lQ qs' j)) p.c.l.length=cA (λj=>Vm.get (q.M (atN (brL b p.r.l.length) k)) (j:Nat)*lQ qs j+ -1*(Vm.get (q.M (atN (brL b p.r.l.length) k)) (j:Nat)*lQ qs' j)) p.c.l.length:=bP λj _=>by grind
   rw[e4,rA,jP]
   have e5:=e1.trans e2.symm
   have e1':cA (λj=>Vm.get (q.M (atN (brL b p.r.l.length) k)) (j:Nat)*lQ qs j) p.c.l.length=cA (λj=>Vm.get (q.M (atN (brL b p.r.l.length) k)) (j:Nat)*lQ qs' j) p.c.l.length:=e5
   rw[e1'];grind
  rw[aTl (P:=λj=>b.c.l.getD j 0=2) (m:=(bcL b p.c.l.length).length) (e:=atN (bcL b p.c.l.length)) ec λj hj hs=>by rw[h.x0 j hj hs,h'.x0 j hj hs];grind,hn] at e3
  exact e3
 refine aMf (h.ln.trans h'.ln.symm) λj hj=>?_
 rw[h'.ln] at hj
 by_cases hs:b.c.l.getD j 0=2
 ·obtain⟨l,hl,rfl⟩:=ec.all j hj hs
  have:=hz l (by rw[<-hn];exact hl)
  grind
 rw[h.x0 j hj hs,h'.x0 j hj hs]
theorem MuR.uniq (hb:BVal p q b) (hp:PrV p q B) {By By':Nat} {ps ps':List Rat} (h:MuR p q b By ps) (h':MuR p q b By' ps'):ps=ps':=by
 have ec:=(fS (P:=λj=>b.c.l.getD j 0=2) p.c.l.length).1
 have er:=(fS (P:=λi=>b.r.l.getD i 0≠2) p.r.l.length).1
 have hn:=hb.n
 have hz:∀k,k<(brL b p.r.l.length).length->lQ ps (atN (brL b p.r.l.length) k)-lQ ps' (atN (brL b p.r.l.length) k)=0:=(hb.sq hp).tr _ λl hl=>by
  have hl2:l<(bcL b p.c.l.length).length:=by omega
  have e1:=h.d _ (ec.lt l hl2) (ec.mem l hl2)
  have e2:=h'.d _ (ec.lt l hl2) (ec.mem l hl2)
  have e3:cA (λi=>Vm.get (q.M i) (atN (bcL b p.c.l.length) l:Nat)*(lQ ps i-lQ ps' i)) p.r.l.length=0:=by
   have e4:cA (λi=>Vm.get (q.M i) (atN (bcL b p.c.l.length) l:Nat)*(lQ ps i-lQ ps' i)) p.r.l.length=cA (λi=>lQ ps i*Vm.get (q.M i) (atN (bcL b p.c.l.length) l:Nat)+ -1*(lQ ps' i*Vm.get (q.M i) (atN (bcL b p.c.l.length) l:Nat))) p.r.l.length:=bP λi _=>by grind
   rw[e4,rA,jP]
   have e1':cA (λi=>lQ ps i*Vm.get (q.M i) (atN (bcL b p.c.l.length) l:Nat)) p.r.l.length=cA (λi=>lQ ps' i*Vm.get (q.M i) (atN (bcL b p.c.l.length) l:Nat)) p.r.l.length:=e1.trans e2.symm
   rw[e1'];grind
  rw[aTl (P:=λi=>b.r.l.getD i 0≠2) (m:=(brL b p.r.l.length).length) (e:=atN (brL b p.r.l.length)) er λi hi hs=>by
   have hs2:=dZ.1 hs
   rw[h.y0 i hi hs2,h'.y0 i hi hs2];grind] at e3
  exact e3
 refine aMf (h.ln.trans h'.ln.symm) λi hi=>?_
 rw[h'.ln] at hi
 by_cases hs:b.r.l.getD i 0=2
 ·rw[h.y0 i hi hs,h'.y0 i hi hs]
 obtain⟨k,hk,rfl⟩:=er.all i hi hs
 have:=hz k hk
 grind
end un
theorem aEg {q:PrQ} {ps:List Rat} {j:Nat}:∀i,gN q ps i j=q.k j-cA (λi=>lQ ps i*Vm.get (q.M i) (j:Nat)) i
 |0=>by show q.k j=q.k j-0;grind
 |i+1=>by
  show gN q ps i j-_=q.k j-(cA _ i+_)
  rw[aEg i];grind
section op
variable {p:ProgM} {q:PrQ} {b:BasM} {B Bx By:Nat} {qs ps:List Rat}
theorem aTm (hb:BVal p q b) (h:PtR p q b Bx qs) (h':MuR p q b By ps) (hd:DuR p q b ps p.c.l.length) {j:Nat} (hj:j<p.c.l.length):((0<gN q ps p.r.l.length j->(p.c.l.getD j default).pl)/\(gN q ps p.r.l.length j<0->(p.c.l.getD j default).pu))/\gN q ps p.r.l.length j*lQ qs j=bnW q (gN q ps p.r.l.length) j:=by
 have hz:gN q ps p.r.l.length j=0->((0<gN q ps p.r.l.length j->(p.c.l.getD j default).pl)/\(gN q ps p.r.l.length j<0->(p.c.l.getD j default).pu))/\gN q ps p.r.l.length j*lQ qs j=bnW q (gN q ps p.r.l.length) j:=λe=>by
  unfold bnW
  rw[e]
  exact⟨⟨λhh=>absurd hh (by decide+kernel),λhh=>absurd hh (by decide+kernel)⟩,by rw[if_neg (by decide+kernel),if_neg (by decide+kernel),cY]⟩
 by_cases hs:b.c.l.getD j 0=2
 ·refine hz ?_
  rw[aEg,h'.d j hj hs];grind
 have hx:=h.x0 j hj hs
 have hfx:Fxd (p.c.l.getD j default) (q.l j) (q.u j)\/¬Dbr (b.c.l.getD j 0) (gN q ps p.r.l.length j):=by
  by_cases hF:Fxd (p.c.l.getD j default) (q.l j) (q.u j)
  ·exact .inl hF
  exact .inr (hd j hj λhh=>hh.elim hs hF)
 unfold x0N at hx
 unfold bnW
 rcases hb.ok.pc j hj with h1|⟨h1,h2⟩|⟨h1,h2⟩|⟨h1,h2,h3⟩
 ·exact absurd h1 hs
 ·rw[if_pos h1] at hx
  rcases hfx with hF|hD
  ·refine⟨⟨λ_=>hF.1.1,λ_=>hF.1.2⟩,?_⟩
   rw[hx,<-hF.2]
   split
   ·rfl
   split
   ·rfl
   rw[show gN q ps p.r.l.length j=0 by grind,cY]
  have hnn:¬gN q ps p.r.l.length j<0:=λhh=>hD (.inl ⟨zM.2 hh,by rw[h1];decide⟩)
  refine⟨⟨λ_=>h2,λhh=>absurd hh hnn⟩,?_⟩
  rw[hx]
  split
  ·rfl
  rw[show gN q ps p.r.l.length j=0 by grind,cY]
 ·rw[if_neg (by rw[h1];decide),if_pos h1] at hx
  rcases hfx with hF|hD
  ·refine⟨⟨λ_=>hF.1.1,λ_=>hF.1.2⟩,?_⟩
   rw[hx,<-hF.2]
   split
   ·rfl
   split
   ·rfl
   rw[show gN q ps p.r.l.length j=0 by grind,cY]
  have hnp:¬0<gN q ps p.r.l.length j:=λhh=>hD (.inr ⟨zL.2 hh,by rw[h1];decide⟩)
  refine⟨⟨λhh=>absurd hh hnp,λ_=>h2⟩,?_⟩
  rw[hx,if_neg hnp]
  split
  ·rfl
  rw[show gN q ps p.r.l.length j=0 by grind,cY]
 rcases hfx with hF|hD
 ·exact absurd hF.1.1 h2
 have hnp:¬0<gN q ps p.r.l.length j:=λhh=>hD (.inr ⟨zL.2 hh,by rw[h1];decide⟩)
 have hnn:¬gN q ps p.r.l.length j<0:=λhh=>hD (.inl ⟨zM.2 hh,by rw[h1];decide⟩)
 exact hz (by grind)
theorem bLh (hb:BVal p q b) (hp:PrV p q B) (h:PtR p q b Bx qs) (h':MuR p q b By ps) (hd:DuR p q b ps p.c.l.length):obj q qs p.c.l.length=bnC p q ps p.c.l.length:=by
 have e1:obj q qs p.c.l.length=cA (λj=>bnW q (gN q ps p.r.l.length) j+cA (λi=>lQ qs j*(lQ ps i*Vm.get (q.M i) (j:Nat))) p.r.l.length) p.c.l.length:=bP λj hj=>by
  rw[<-(aTm hb h h' hd hj).2,aEg,jP]
  grind
 have e2:cA (λj=>cA (λi=>lQ qs j*(lQ ps i*Vm.get (q.M i) (j:Nat))) p.r.l.length) p.c.l.length=bnY q ps p.r.l.length:=by
  rw[qQ]
  refine bP λi hi=>?_
  have e3:cA (λj=>lQ qs j*(lQ ps i*Vm.get (q.M i) (j:Nat))) p.c.l.length=lQ ps i*cA (λj=>Vm.get (q.M i) (j:Nat)*lQ qs j) p.c.l.length:=by
   rw[<-jP]
   exact bP λj _=>by grind
  show cA (λj=>lQ qs j*(lQ ps i*Vm.get (q.M i) (j:Nat))) p.c.l.length=lQ ps i*q.b i
  rw[e3]
  by_cases hs:b.r.l.getD i 0=2
  ·rw[h'.y0 i hi hs,cY,cY]
  rw[<-h.ti i hi hs,aMg hp hi]
 rw[e1,rA,e2]
 unfold bnC
 exact uP _ _
end op
def cMe:Ord:=.joinX [] [0,2001,3] (.alt 2 (.alt 4 (.alt 5 (trS [2006,2007,2008,9,1010,2011]) (.alt 9 (trS [5,2006,2007,2008,1010,2011]) .nil)) (.alt 9 (trS [4,5,2006,2007,2008,1010,2011]) .nil)) (.alt 9 (trS [2,4,5,2006,2007,2008,1010,2011]) .nil))
theorem cFz {p:ProgM} {q:PrQ} {b:BasM} {y:Sl RatM} {ps:List Rat} (hS:SmP p) (hq:PrG p q 3) (hb:BVal p q b) {x:List Rat} {Bx:Nat} (hx:PtR p q b Bx x) (hy:MuL p q b y ps) (hs:Sgd p ps) (hd:DuR p q b ps p.c.l.length):BnH p q y ps 3 1000001000:=⟨hq.pz hy,hs,λj hj=>(aTm hb hx hy.2 hd hj).1,by
 have h1:=hS.n.1
 have h2:=hS.n.2
 have h3:p.r.l.length*(1000001000+3+1)<=4*(1000001000+3+1):=aQ _ h2
 have h4:(p.r.l.length+p.c.l.length+1)*(3+p.r.l.length*(1000001000+3+1)+3+1000001000+1)<=9*(3+4*(1000001000+3+1)+3+1000001000+1):=jB oM oM
 omega⟩
abbrev bXe:FuncId:=8
theorem cMf:Ent Tryz.prog bXe:=aW func8 rfl kR
theorem cMg:Tryz.prog.funcs[bXe]? =some Tryz.f8:=func8
theorem cGa (d e:Sl Int):Ctr Tryz.prog bXe [] [.c (cM d),.c (cM e)] [] (λ_:Unit=>⟨pC True,[],True⟩):=by
 refine aX gT cMf cMg rfl rfl rfl bL aS (aUm 0 rfl λhd=>aUm 1 rfl λhe=>aA gT mxd ?_)
 replace hd:d.l.length<=9223372036854775807:=hd
 replace he:e.l.length<=9223372036854775807:=he
 refine⟨[],bUx d hd,rfl,rfl,rfl,λp hp=>?_⟩
 have hS:SmP p:=⟨⟨hp.1.2.1,hp.1.2.2⟩,hp.2.1,hp.2.2⟩
 obtain⟨q,hq⟩:=hS.prg
 have hpc:=hS.n.1
 have hpr:=hS.n.2
 refine⟨cMe,by kernel_rfl,BasM,λr=>⟨[(7,.c (iC 0)),(5,.c (.p 0 0)),(6,.c (.p 1 0))]++[],[],lrB p r,[]⟩,λr=>BVal p q r,?_,λr hr=>?_⟩
 ·exact⟨⟨[],aOr e,rfl,rfl,rfl,λ_ _=>⟨rfl,⟨[1],aPs e p 0 he (aC _) oM oM,rfl,rfl,rfl,λg hg=>⟨rfl,⟨[],aTk p g.1 hS hq,rfl,rfl,rfl,λr hr=>⟨rfl,rfl,gsw 1 2 rfl rfl bL bL rfl ⟨bL,bS g0 (chg:=λ_:BasM=>[(7,.c (iC 0)),(5,.c (.p 0 0)),(6,.c (.p 1 0))]) (bls:=λr=>lrB p r) (fls:=λ_=>[]) r (hr.val hq.v) rfl ⟨rfl,rfl⟩ trivial ⟨rfl,rfl,rfl⟩ bL aJp rfl⟩⟩⟩,⟨rfl,[],aTk p g.1 hS hq,rfl,rfl,rfl,λr hr=>⟨rfl,gsw 1 2 rfl rfl bL bL rfl ⟨bL,bS g0 (chg:=λ_:BasM=>[(7,.c (iC 0)),(5,.c (.p 0 0)),(6,.c (.p 1 0))]) (bls:=λr=>lrB p r) (fls:=λ_=>[]) r (hr.val hq.v) rfl ⟨rfl,rfl⟩ trivial ⟨rfl,rfl,rfl⟩ bL aJp rfl⟩⟩⟩⟩⟩,⟨rfl,[1],aPs e p 0 he (aC _) oM oM,rfl,rfl,rfl,λg hg=>⟨rfl,[],aTk p g.1 hS hq,rfl,rfl,rfl,λr hr=>⟨rfl,gsw 1 2 rfl rfl bL bL rfl ⟨bL,bS g0 (chg:=λ_:BasM=>[(7,.c (iC 0)),(5,.c (.p 0 0)),(6,.c (.p 1 0))]) (bls:=λr=>lrB p r) (fls:=λ_=>[]) r (hr.val hq.v) rfl ⟨rfl,rfl⟩ trivial ⟨rfl,rfl,rfl⟩ bL aJp rfl⟩⟩⟩⟩⟩⟩,⟨rfl,[],aOr e,rfl,rfl,rfl,λ_ _=>⟨rfl,[2],aPs e p 0 he (aC _) oM oM,rfl,rfl,rfl,λg hg=>⟨rfl,[],aTk p g.1 hS hq,rfl,rfl,rfl,λr hr=>⟨rfl,bS g0 (chg:=λ_:BasM=>[(7,.c (iC 0)),(5,.c (.p 0 0)),(6,.c (.p 1 0))]) (bls:=λr=>lrB p r) (fls:=λ_=>[]) r (hr.val hq.v) rfl ⟨rfl,rfl⟩ trivial ⟨rfl,rfl,rfl⟩ bL aJp rfl⟩⟩⟩⟩⟩
 replace hr:BVal p q r:=hr
 refine⟨[],bEp p r hq hr,rfl,rfl,rfl,λ⟨x,qs⟩ hx=>⟨[],bNa p r hq hr,rfl,rfl,rfl,λ⟨y,ps⟩ hy=>⟨[],bLg,rfl,rfl,rfl,λ_ _=>⟨λh2=>?_,λ_=>aA gT mxd ⟨[],bNb p r hq hr,rfl,rfl,rfl,λ⟨x',qs'⟩ hx'=>⟨λ_=>?_,λh3=>⟨[],bNc p r hq hr,rfl,rfl,rfl,λ⟨y',ps'⟩ hy'=>⟨λ_=>?_,λh4=>?_⟩⟩⟩⟩⟩⟩⟩⟩
 ·replace h2:((0:Int)≠0\/(0:Int)≠0)\/(0:Int)≠0:=h2
  omega
 ·exact⟨(),trivial,aM (tt trivial) rfl trivial⟩
 ·exact⟨(),trivial,aM (tt trivial) rfl trivial⟩
 replace hx:PtL p q r x qs:=hx
 replace hx':PtL p q r x' qs':=hx'
 replace hy:MuL p q r y ps:=hy
 replace hy':MuL p q r y' ps':=hy'
 have e1:qs'=qs:=hx'.2.uniq hr hq.v hx.2
 have e2:ps'=ps:=hy'.2.uniq hr hq.v hy.2
 have hf:Fsb p q qs:=by rw[<-e1];exact dZ.1 h3
 have hsd:Sgd p ps/\DuR p q r ps p.c.l.length:=by rw[<-e2];exact dZ.1 h4
 exact⟨[],bXd p x y (hq.px hx) (cFz hS hq hr hx.2 hy hsd.1 hsd.2) hf (bLh hr hq.v hx.2 hy.2 hsd.2),rfl,rfl,rfl,λ_ _=>⟨(),trivial,aM mS rfl trivial⟩⟩
end Go.Proofs.YtghncoghdcmdfaaGreat
namespace Go.Proofs.YtghncoghdcmdfaaGreat
open Go.Vg Go.RowKit _root_.Go.Proofs.Tryz
open Go.Vm
open Go.Vy hiding val
open Go.ChangeShapes Go.WideShapes
namespace bulks
theorem bXf {H:Type} (d:DataW H):1<=Rows.uptoBulk d:=by
 cases d with
 |lit l=>cases l<;>simp[Rows.uptoBulk]
 |nil=>simp[Rows.uptoBulk]
 |ptr d=>simp[Rows.uptoBulk]
 |slice elems spare=>simp[Rows.uptoBulk]
 |agg parts=>simp[Rows.uptoBulk]
 |iface t d=>simp[Rows.uptoBulk]
 |map entries=>simp[Rows.uptoBulk]
 |held h=>simp[Rows.uptoBulk]
theorem part_le {H:Type} {d:DataW H} {l:List (DataW H)} (h:d∈l):Rows.uptoBulk d<=Rows.uptoBulkAll l:=by
 induction l with
 |nil=>cases h
 |cons x r ih=>
  simp only[Rows.uptoBulkAll]
  cases bR.1 h with
  |inl e=>subst e;omega
  |inr e=>have:=ih e;omega
theorem length_le {H:Type} (l:List (DataW H)):l.length<=Rows.uptoBulkAll l:=by
 induction l with
 |nil=>simp[Rows.uptoBulkAll]
 |cons x r ih=>have:=bXf x;simp only[Rows.uptoBulkAll,dK];omega
end bulks
def ρA:Pl:=⟨λ_=>(none,0),λ_=>True,[]⟩
section
variable {H:Type} {enc:TypeId×Value->H} {w:World} {base:Nat} {spare:Nat->Bool} {held:Bool}
theorem zA {b:Nat} (h:b<w.heap.size):Zf ρA 0 w b:=⟨h,λi hi=>absurd hi (aD _),trivial,λ⟨F,hF,_⟩=>by cases hF⟩
def Opn (H:Type) (enc:TypeId×Value->H) (w:World) (base:Nat) (spare:Nat->Bool) (held:Bool) (T:TypeId) {α:Type} (C:α->List CV) (B:Nat->α->Prop):Prop:=
 ∀fuel cs x,DataW.trod enc Tryz.prog w base spare held fuel T cs=some x->∃a:α,(Hl ρA 0 w (C a) cs/\∀u∈cs,u.oneCell'=true)/\B (Rows.uptoBulk x.1) a
theorem aTn:Opn H enc w base spare held 3 (λz:Int=>[iC z]) λ_ _=>True:=λfuel cs x h=>by
 obtain⟨n,rfl,_,_⟩:=DataW.trod_int underlying3 h
 exact⟨n,⟨⟨Rc.v _,trivial⟩,λu hu=>by rw[aI.1 hu];rfl⟩,trivial⟩
theorem bNg {α:Type} {f:Nat->α} {n j:Nat} {d:α} (h:j<n):((List.range n).map f).getD j d=f j:=by simp[List.getD,h]
theorem bFe {T E e:Nat} {α:Type} {C:α->List CV} {B:Nat->α->Prop} (hT:Tryz.prog.underlying T=some (.slice E)) (hE:Tryz.prog.cellsOf E=e) (he:0<e) (hC:∀a,(C a).length=e) (hcl:∀a,∀c∈C a,fO c=true) (d:α) (hO:Opn H enc w base spare held E C B) (hB:∀m n a,m<=n->B m a->B n a):
 Opn H enc w base spare held T (λs:Sl α=>[s.R e C d]) λn s=>s.l.length<=n/\∀x∈s.l,B n x:=λfuel cs x h=>by
 rcases Go.Deep.open_slice hT h with ⟨rfl,rfl⟩|⟨a,len,cap,m,n,D,Pl,rfl,hb,hl,hm,hmm,rfl,hx⟩
 ·exact⟨cP,⟨⟨Rc.nil _ _ _ _ (aC _),trivial⟩,λu hu=>by rw[aI.1 hu];rfl⟩,aC _,λ_ h=>nomatch h⟩
 rw[hE] at hx
 have hlm:len<=m:=by rw[hmm];split<;>omega
 have each:∀i,i<len->∃q:α×List Value,w.cells? base (a.add (i*e)) e=some q.2/\(Hl ρA 0 w (C q.1) q.2/\∀u∈q.2,u.oneCell'=true)/\B (Rows.uptoBulk (D i)) q.1:=λi hi=>by
  obtain⟨cs',h1,h2⟩:=hx i (by omega)
  obtain⟨y,h3,h4⟩:=hO _ _ _ h2
  exact⟨(y,cs'),h1,h3,h4⟩
 have hlb:len<=Rows.uptoBulkAll ((List.range len).map D):=by
  have:=bulks.length_le ((List.range len).map D)
  rwa [aU,iJ] at this
 by_cases h0:len=0
 ·subst h0
  exact⟨⟨some a,cap,[]⟩,⟨⟨Rc.nil _ _ _ _ hm,trivial⟩,λu hu=>by rw[aI.1 hu];rfl⟩,aC _,λ_ h=>nomatch h⟩
 haveI:Inhabited (α×List Value):=⟨(d,[])⟩
 obtain⟨q,hq⟩:=Go.Deep.choose_lt each
 have cell:∀i,i<len->∀j (u:Value),((q i).2)[j]? =some u->w.cell? (a.add (i*e+j))=some u:=λi hi j u hu=>by
  obtain⟨_,h2,h3⟩:=World.cells?_some (hq i hi).1
  have h4:=h3 j (by rw[<-h2];exact dX hu)
  rw[Go.Deep.add_add,hu] at h4
  exact h4
 have l0:0<((q 0).2).length:=by rw[<-(hq 0 (by omega)).2.1.1.len,hC];exact he
 have c0:=cell 0 (by omega) 0 _ (aE l0)
 obtain⟨b,o,spot⟩:=a
 have hspot:spot=none:=by simpa[Addr.add] using World.cell?_spot c0
 subst hspot
 have hlt:b<w.heap.size:=by
  rw[fK] at c0
  unfold World.cell? at c0
  cases hh:w.heap[b]? with
  |none=>rw[show((⟨b,o+(0*e+0),none⟩:Addr).block)=b from rfl,hh] at c0;cases c0
  |some ob=>exact(mL.1 hh).1
 refine⟨⟨some ⟨b,o,none⟩,cap,(List.range len).map λi=>(q i).1⟩,⟨⟨?_,trivial⟩,λu hu=>by rw[aI.1 hu];rfl⟩,?_,λx hx=>?_⟩
 ·show Rc (Zf ρA 0 w) w (.r (some ⟨b,o,none⟩) ((List.range len).map λi=>(q i).1).length cap e λj=>C (((List.range len).map λi=>(q i).1).getD j d)) (.slice (some ⟨b,o,none⟩) len cap)
  rw[aU,iJ]
  refine Rc.r b o len cap e _ (λi=>(q i).2) hl hm (zA hlt) (λj hj i u hu=>⟨?_,(hq j hj).2.1.2 u (aP hu)⟩) (λj hj=>?_) λj hj i c u h1 h2=>?_
  ·have:=cell j hj i u hu
   rw[fK] at this
   rw[iB]
   exact this
  ·rw[bNg hj]
   exact(hq j hj).2.1.1.len.symm
  rw[bNg hj] at h1
  obtain⟨y,h3,h4⟩:=(hq j hj).2.1.1.get h1
  rw[h2] at h3
  injection h3 with h3
  subst h3
  exact aFg h4 (hcl _ c (aP h1))
 ·show((List.range len).map λi=>(q i).1).length<=_
  rw[aU,iJ]
  simp only[Rows.uptoBulk]
  omega
 obtain⟨i,hi,rfl⟩:=cB.1 hx
 rw[cQ] at hi
 have h5:=bulks.part_le (d:=D i) (l:=(List.range len).map D) (cB.2 ⟨i,cQ.2 hi,rfl⟩)
 exact hB _ _ _ (by simp only[Rows.uptoBulk];omega) (hq i hi).2.2
end
namespace basisOptimalDone
open Go.ChangeShapes Go.WideShapes Go.ChangeAt
theorem own:ownKnob Tryz.prog.godebug=none:=by kernel_rfl
theorem aTo:laidOutB Tryz.prog=true:=by kernel_rfl
set_option maxRecDepth 100000 in
theorem bXg (os:Os) (started:os.Started) (H:Type) (enc:TypeId×Value->H):
 ReturnsInHanded {} Tryz.checked os 8 .any (Rows.basisOptimalSpec.pre6 enc Tryz.prog Tryz.f8 Rows.basisOptimalRow.domain false) (Rows.basisOptimalSpec.post enc Tryz.prog Tryz.f8 false true false false):=by
 refine returnsInHanded_of_change (C:=Tryz.checked) own started (by kernel_rfl) func8
  (ChangeSpec.witness6 (enc:=enc) (C:=Tryz.checked) false ⟨#[],#[.slice none 0 0,.slice none 0 0],[]⟩ 8 (by kernel_rfl) (by kernel_rfl) (by kernel_rfl) (by kernel_rfl)) ?_
 intro W base args ds gs before hval0 hW hcnd _
 have hval:∀(j:Nat) t v,Tryz.f8.params[j]? =some t->args[j]? =some v->Value.okWide Tryz.prog W .any base t v:=hval0
 have hW':=hW
 obtain⟨p,q,hA0,hV,rfl,hfz,hnd⟩:=hW
 have hA:DataW.TrodAll enc Tryz.prog W 0 (λ_=>true) true Tryz.f8.params.toList args.toList ds p:=hA0
 rw[Tryz.params8] at hA hval
 obtain⟨v0,vs0,d0,ds0,p0,q0,hargs,rfl,rfl,h0,r0⟩:=trodAll_cons hA
 obtain⟨v1,vs1,d1,ds1,p1,q1,rfl,rfl,rfl,h1,r1⟩:=trodAll_cons r0
 obtain⟨rfl,rfl,rfl⟩:=trodAll_nil r1
 obtain rfl:args=#[v0,v1]:=by cases args;simp_all
 obtain⟨rfl,rfl⟩:=trodVars_none hV
 obtain⟨a0,len0,cap0,rfl⟩:=okWide_slice underlying38 (hval 0 38 v0 rfl rfl)
 have k0:=h0
 have lt0:∀x∈p0,x.block<W.heap.size:=by obtain⟨m,hm⟩:=k0;exact DataW.trod_lt m _ _ _ hm
 obtain⟨D0,hD0⟩:∃D:Sl Int,Hd ρA 0 W (.c (cM D)) (.slice a0 len0 cap0):=by
  obtain⟨fuel,hf⟩:=h0
  obtain⟨D,⟨hl,_⟩,_⟩:=bFe (e:=1) (C:=λz:Int=>[iC z]) underlying38 (by kernel_rfl) bL (λ_=>rfl) (λ_=>bTt rfl) 0 aTn (λ_ _ _ _ _=>trivial) _ _ _ hf
  exact⟨D,.c hl.1⟩
 obtain⟨a1,len1,cap1,rfl⟩:=okWide_slice underlying38 (hval 1 38 v1 rfl rfl)
 have k1:=h1
 have lt1:∀x∈p1,x.block<W.heap.size:=by obtain⟨m,hm⟩:=k1;exact DataW.trod_lt m _ _ _ hm
 obtain⟨D1,hD1⟩:∃D:Sl Int,Hd ρA 0 W (.c (cM D)) (.slice a1 len1 cap1):=by
  obtain⟨fuel,hf⟩:=h1
  obtain⟨D,⟨hl,_⟩,_⟩:=bFe (e:=1) (C:=λz:Int=>[iC z]) underlying38 (by kernel_rfl) bL (λ_=>rfl) (λ_=>bTt rfl) 0 aTn (λ_ _ _ _ _=>trivial) _ _ _ hf
  exact⟨D,.c hl.1⟩
 clear hA0 hval0
 refine((cGa D0 D1).run ρA W [.slice a0 len0 cap0,.slice a1 len1 cap1] ⟨hD0,hD1,trivial⟩ ⟨λi T es l hi=>(by cases hi),λi j b hi=>absurd hi (aD _),λi b _ hi=>absurd hi (aD _),aJ _,⟨rfl,rfl,rfl,aJ _,λ_ _ _ _=>rfl⟩,λi hi=>rfl,⟨rfl,λ_ _=>trivial⟩,FamOk.nil,λb hb=> .inr hb⟩ rfl).mono λe W' ⟨v,he,g,ρ',_,hDr,hdv,_,_⟩=>?_
 have hr:=hDr.rel
 have bel:Below W.heap.size W W':=⟨hr.os,hr.tape,hr.output,hr.size,λk hk=>hr.block k hk (λi hi=>absurd hi (aD _)) λ⟨F,hF,_⟩=>by cases hF⟩
 have hv:v= .bool true:=by
  have h5:=hdv.inv_c.inv_b
  rw[h5]
  simp
 subst he hv
 exact⟨_,rfl,_,_,_,[],_,[],hW',trodAll_mk1 (shut_bool underlying4 _),(trodAll_cons_mk (Below.trod aTo (by kernel_rfl) (of_decide_eq_true (by kernel_rfl)) k0 bel lt0) (trodAll_cons_mk (Below.trod aTo (by kernel_rfl) (of_decide_eq_true (by kernel_rfl)) k1 bel lt1) trodAll_mk0)),rfl,bel.frame _,λh=>by cases h⟩
theorem cMh:Rows.basisOptimalRow.holds Tryz.pinned (OpenSpec.ofChange Rows.basisOptimalSpec):=
 OpenClaim.holds_of_wide 8 Tryz.f8 rfl rfl rfl rfl rfl rfl rfl ⟨rfl,rfl,rfl,rfl,rfl⟩ rfl rfl rfl rfl rfl (by kernel_rfl) func8 (by kernel_rfl)
  (of_decide_eq_true (by kernel_rfl)) (by unfold Func.isWrapper;first|(rw[if_pos (by decide+kernel)];kernel_rfl)|(rw[if_neg (by decide+kernel)];exact⟨rfl,rfl⟩))
  (λos started H enc _=>bXg os started H enc)
theorem proved:Rows.BasisOptimalSaid:=cMh
#print axioms proved
end basisOptimalDone
end Go.Proofs.YtghncoghdcmdfaaGreat
